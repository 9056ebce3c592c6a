import Derived.Test.YtipgfjihdglocaaGreatOpA
import Derived.Test.YtipgfjihdglocaaGreatCw37
import Derived.Test.YtipgfjihdglocaaGreatCw43
import Derived.Test.YtipgfjihdglocaaGreatCw15
import Derived.Test.YtipgfjihdglocaaGreatCw36
import Derived.Test.YtipgfjihdglocaaGreatCw42
import Derived.Deep.QuietTactic
import Derived.BigQuiet
import Derived.Deep.RegionHeld3
/-! sink.Book.Commit with lines. -/
namespace Go.Proofs.YtipgfjihdglocaaGreat
set_option linter.unusedSimpArgs false
set_option linter.unusedVariables false
open Go.RowKit Ga
set_option maxRecDepth 100000

theorem commit1_any (x : Gr.Ln) (w : World) : Calls Tryz.prog 152 #[.agg #[.int .i64 x.sink, .int .i64 x.frm, .int .i64 x.key, .int .i64 x.v.1, .int .i64 x.v.2]] w (Gives (.bool (!(lineB x))) w) := by
  obtain ⟨si, fr, ky, ⟨p0, q0⟩⟩ := x
  simp only
  have HL := Lib.hid fun W => line_any si fr ky p0 q0 W
  generalize lineB ⟨si, fr, ky, (p0, q0)⟩ = b at *
  go_enter Tryz.func152, Tryz.ntmps152
  go_wp2_with (go_at_call 142; refine (HL.out _).mono ?_; rintro e w1 ⟨rfl, R1, n1, rfl⟩)
  go_ret
  exact ⟨rfl, by repeat (first | with_reducible exact Grew.refl _ | apply Grew.more | apply Grew.alloc | apply Grew.drew | apply Grew.drewN)⟩
set_option maxHeartbeats 4000000 in
theorem indexLnC_any (v : Value) (l : List Gr.Ln) (p : Gr.Ln → Bool) (w : World) (hv : LnsAt w v l) (hp : ∀ W x, x ∈ l → Grew w W → Calls Tryz.prog 152 #[.agg #[.int .i64 x.sink, .int .i64 x.frm, .int .i64 x.key, .int .i64 x.v.1, .int .i64 x.v.2]] W (Gives (.bool (p x)) W)) : Calls Tryz.prog 188 #[v, .func (.func 152) #[] #[]] w (IdxPost l p w) := by
  have HV := Lib.hid hv
  have HP := Lib.hid hp
  obtain ⟨a, cap, rfl, hm, -⟩ := LnsAt.open5 hv
  clear hv hp
  go_enter Tryz.func188, Tryz.ntmps188
  go_wp2
  go_loopg [8] l.length (fun gg s8 wr => ∃ k : Nat, k ≤ l.length ∧ l.length - k ≤ gg ∧ s8 = .int .i64 k ∧ Hid (Grew w wr) ∧ Hid (∀ i (h : i < l.length), i < k → p l[i] = false))
  case atStart => exact ⟨0, by omega, by omega, rfl, Lib.hid (by repeat (first | with_reducible exact Grew.refl _ | apply Grew.more | apply Grew.alloc | apply Grew.drew | apply Grew.drewN)), Lib.hid fun i _ h => by omega⟩
  case round =>
    obtain ⟨k, hk, hgg, rfl, HG, HNO⟩ := hrel
    by_cases hlt : k < l.length
    · obtain ⟨a', cap', e, -, hx⟩ := LnsAt.open5 (HV.out.grew HG.out)
      cases e
      obtain ⟨b, off, rfl, hb, c0, c1, c2, c3, c4⟩ := hx k hlt
      have HANY := Lib.hid fun h => any_at (p := p) hlt h
      have HNX : Hid (p l[k] = false → ∀ i (h : i < l.length), i < k + 1 → p l[i] = false) := Lib.hid fun h i hi h2 => (Nat.lt_or_ge i k).elim (HNO.out i hi) fun h3 => by
        obtain rfl : i = k := by omega
        exact h
      have HC := Lib.hid fun W (g : Grew wr W) => HP.out W _ (List.getElem_mem hlt) (HG.out.trans g)
      clear hx
      generalize l[k] = x at *
      cases hq : p x
      · have HQ := Lib.hid hq
        have HNX2 := Lib.hid (HNX.out hq)
        clear hq
        go_wp2_with (go_at_call 152; refine (HC.out _ (by repeat (first | with_reducible exact Grew.refl _ | apply Grew.more | apply Grew.alloc | apply Grew.drew | apply Grew.drewN))).mono ?_; rintro e w1 ⟨rfl, R1, n1, rfl⟩; rw [HQ.out])
        go_roundg (l.length - (k + 1))
        case measure => omega
        case rel => exact ⟨k + 1, by omega, by omega, by go_num, Lib.hid (HG.out.trans (by repeat (first | with_reducible exact Grew.refl _ | apply Grew.more | apply Grew.alloc | apply Grew.drew | apply Grew.drewN))), HNX2⟩
      · have HQ := Lib.hid hq
        have HANY2 := Lib.hid (HANY.out hq)
        clear hq
        go_wp2_with (go_at_call 152; refine (HC.out _ (by repeat (first | with_reducible exact Grew.refl _ | apply Grew.more | apply Grew.alloc | apply Grew.drew | apply Grew.drewN))).mono ?_; rintro e w1 ⟨rfl, R1, n1, rfl⟩; rw [HQ.out])
        go_ret
        exact ⟨k, rfl, by rw [HANY2.out]; exact decide_eq_true (by omega), HG.out.trans (by repeat (first | with_reducible exact Grew.refl _ | apply Grew.more | apply Grew.alloc | apply Grew.drew | apply Grew.drewN))⟩
    · obtain rfl : k = l.length := by omega
      have HANY := Lib.hid (any_none (p := p) HNO.out)
      go_wp2
      go_ret
      exact ⟨-1, rfl, by rw [HANY.out]; rfl, HG.out⟩
set_option maxHeartbeats 4000000 in
theorem containsLnC_any (v : Value) (l : List Gr.Ln) (p : Gr.Ln → Bool) (w : World) (hv : LnsAt w v l) (hp : ∀ W x, x ∈ l → Grew w W → Calls Tryz.prog 152 #[.agg #[.int .i64 x.sink, .int .i64 x.frm, .int .i64 x.key, .int .i64 x.v.1, .int .i64 x.v.2]] W (Gives (.bool (p x)) W)) : Calls Tryz.prog 145 #[v, .func (.func 152) #[] #[]] w (Gives (.bool (l.any p)) w) := by
  have HI := Lib.hid (indexLnC_any v l p w hv hp)
  obtain ⟨a, cap, rfl, hm, -⟩ := LnsAt.open5 hv
  clear hv hp
  go_enter Tryz.func145, Tryz.ntmps145
  go_wp2_with (go_at_call 188; refine HI.out.mono ?_; rintro e w1 ⟨i, rfl, hi, R1, n1, rfl⟩; (have HQ := Lib.hid hi); clear hi)
  go_ret
  exact ⟨by rw [← HQ.out]; rfl, by repeat (first | with_reducible exact Grew.refl _ | apply Grew.more | apply Grew.alloc | apply Grew.drew | apply Grew.drewN)⟩
/-- a book of lines, and how far it has come -/
structure BookL (base : Nat) (W : World) (bk mp n : Nat) (lv : Value) (ls : List Gr.Ln) (ep : Int) : Prop where
  blk : W.heap[bk]? = some (.cells #[lv, .map (some mp), .int .i64 ep] 155)
  own : OwnAt base 122 5 encLn W lv ls
  map : ∃ m : List (Int × Int), MapAt intS W mp n m ∧ ∀ x ∈ m, x.1 ≤ ep
  b0 : base ≤ bk
  m0 : base ≤ mp
theorem BookL.grew {base : Nat} {W W' : World} {bk mp n : Nat} {lv : Value} {ls : List Gr.Ln} {ep : Int} (h : BookL base W bk mp n lv ls ep) (g : Grew W W') : BookL base W' bk mp n lv ls ep := by
  obtain ⟨m, h1, h2⟩ := h.map
  exact ⟨grew_heap g h.blk, h.own.grew g, ⟨m, h1.grew g, h2⟩, h.b0, h.m0⟩
set_option maxHeartbeats 16000000 in
theorem bookCommit_any {w0 W : World} {bk mp n : Nat} {lv : Value} {ls : List Gr.Ln} {ep e0 : Int} (h : BookL w0.heap.size W bk mp n lv ls e0) (hg : Grew w0 W) (hn : n ≤ 1000000) (hx : e0 < ep) (he : inOk ep) {ax : Option Addr} {nx cx : Nat} {out : List Gr.Ln} (ho : OwnAt 0 122 5 encLn W (.slice ax nx cx) out) (hr : ∀ x ∈ out, lineB x = true) (hl : ls.length + out.length ≤ 1000000) :
    Calls Tryz.prog 104 #[.pointer (some ⟨bk, 0, none⟩), .int .i64 ep, .slice ax nx cx] W fun e W' => e = .returned (.int .i64 0) ∧ ∃ lv', BookL w0.heap.size W' bk mp (n + 1) lv' (ls ++ out) ep ∧ Grew w0 W' ∧ (∀ q, q < W.heap.size → q ≠ bk → q ≠ mp → lv.ownBlock ≠ some q → W'.heap[q]? = W.heap[q]?) ∧ (∀ q, lv'.ownBlock = some q → lv.ownBlock = some q ∨ W.heap.size ≤ q) ∧ W.heap.size ≤ W'.heap.size := by
  obtain ⟨m, hm, hle⟩ := h.map
  have H := Lib.hid h
  have HM := Lib.hid hm
  have HNO : Hid (∀ z ∈ m, z.1 ≠ ep) := Lib.hid fun z hz e => by have := hle z hz; omega
  have c0 := cell_of (o := 0) h.blk
  have c1 := cell_of (o := 1) h.blk
  have c2 := cell_of (o := 2) h.blk
  have f0 := frozen_of (o := 0) h.blk
  have f2 := frozen_of (o := 2) h.blk
  simp at c0 c1 c2
  obtain ⟨al, cl, hlv⟩ := (OwnAt.rows h.own encLn_len).len
  have hb : Pre bk W := heap_lt h.blk
  have HG := Lib.hid hg
  have HE := Lib.hid he
  have HLE := Lib.hid hle
  have HO := Lib.hid ho
  have HL := Lib.hid hl
  have hm0 := h.m0
  have hx2 : ¬ ep ≤ e0 := by omega
  have HXE := Lib.hid hx
  have hany : (out.any fun x => !(lineB x)) = false := by
    rw [List.any_eq_false]
    intro x hx
    rw [hr x hx]
    decide
  have HCN := Lib.hid fun W' (g : Grew W W') => containsLnC_any (.slice ax nx cx) out (fun x => !(lineB x)) W' (OwnAt.rows (ho.grew g) encLn_len) fun W2 x _ _ => commit1_any x W2
  rw [hany] at HCN
  obtain ⟨ax2, cx2, hox⟩ := (OwnAt.rows ho encLn_len).len
  cases hox
  subst hlv
  clear h hm hle hg he ho hr hl hany hx
  go_enter Tryz.func104, Tryz.ntmps104
  go_wp2_with (go_at_call 145; refine (HCN.out _ (by repeat (first | with_reducible exact Grew.refl _ | apply Grew.more | apply Grew.alloc | apply Grew.drew | apply Grew.drewN))).mono ?_; rintro e w1 ⟨rfl, R1, n1, rfl⟩)
  refine wp_region_seq 10 Tryz.mixed (by kernel_rfl) (by kernel_rfl) ?_
  iterate 10
    apply Seq.val
    focus
      rintro w1 u ⟨R1, n1, rfl⟩ hF
      simp [moreFacts, Fact.more, Oper.deps, Region.binds, List.filter_cons, World.more_drew] at hF
      simp [putFacts, Oper.deps, Region.binds, List.filter_cons, Region.dstOf, Fact.at, Act.put, World.more_drew]
      go_wp2
      exact ⟨by repeat (first | with_reducible exact Grew.refl _ | apply Grew.more | apply Grew.alloc | apply Grew.drew | apply Grew.drewN), rfl, _, _, rfl, rfl, rfl⟩
  rintro u w1 ⟨R1, n1, rfl⟩ hF
  clear hF
  simp [putFacts, Region.dstOf, Fact.at, Act.put, List.range_succ, World.more_drew]
  refine wpList_mapPut (S := intS) (w0 := w0) (M := m) rfl (.tmp 23) (.tmp 24) (.tmp 29) 153 rfl Tryz.underlying153 (HG.out.trans (by repeat (first | with_reducible exact Grew.refl _ | apply Grew.more | apply Grew.alloc | apply Grew.drew | apply Grew.drewN))) hm0 rfl (HM.out.grew (by repeat (first | with_reducible exact Grew.refl _ | apply Grew.more | apply Grew.alloc | apply Grew.drew | apply Grew.drewN))) (by unfold maxLen; omega) ep ls.length HE.out HNO.out rfl rfl ?_
  intro W7 h7 g7 k7
  have hk7 : Keep mp W W7 := Keep.trans (Keep.ofGrew (by repeat (first | with_reducible exact Grew.refl _ | apply Grew.more | apply Grew.alloc | apply Grew.drew | apply Grew.drewN))) k7
  have hcl7 : CL [] W W7 := hk7.cl HM.out.nocells
  have hB7 := hcl7 _ _ _ _ H.out.blk (by simp)
  have HO7 := Lib.hid (hcl7.own H.out.own (by simp))
  have HX7 := Lib.hid (hcl7.own HO.out (by simp))
  have H7 := Lib.hid h7
  have G7 := Lib.hid g7
  have K7 := Lib.hid hk7
  have B7 := Lib.hid hB7
  have c0 := cell_of (o := 0) hB7
  simp at c0
  have hb7 : Pre bk W7 := heap_lt hB7
  clear h7 g7 k7 hk7 hB7 hcl7 f0 f2 c1 c2
  go_wp2_with (at_builtin; go_loud (refine wpList_ownS (w0 := w0) (base2 := 0) (l2 := out) rfl (.tmp 34) (.tmp 35) 45 _ _ rfl Tryz.underlying45 infoLn rfl (by decide) encLn_len encLn_one rfl (HO7.out.grew (by repeat (first | with_reducible exact Grew.refl _ | apply Grew.more | apply Grew.alloc | apply Grew.drew | apply Grew.drewN))) (G7.out.trans (by repeat (first | with_reducible exact Grew.refl _ | apply Grew.more | apply Grew.alloc | apply Grew.drew | apply Grew.drewN))) rfl (HX7.out.grew (by repeat (first | with_reducible exact Grew.refl _ | apply Grew.more | apply Grew.alloc | apply Grew.drew | apply Grew.drewN))) HL.out (by decide) ?_); intro v8 W8 hA; obtain ⟨a8, c8, rfl⟩ := (OwnAt.rows hA.2.1 encLn_len).len; obtain ⟨Wp, hA, hWp⟩ : ∃ Wp, Appended w0 122 5 encLn Wp (.slice al ls.length cl) (ls ++ out) (.slice a8 (ls ++ out).length c8) W8 ∧ Grew W7 Wp := ⟨_, hA, by repeat (first | with_reducible exact Grew.refl _ | apply Grew.more | apply Grew.alloc | apply Grew.drew | apply Grew.drewN)⟩; (have b8 := app_blk (W := W7) hA hWp B7.out (HO7.out.other B7.out (by decide))); (have HA := Lib.hid hA); (have HWP := Lib.hid hWp); (have B8 := Lib.hid b8); (have c7 := cell_of (o := 0) b8); (have f7 := frozen_of (o := 0) b8); (have f9 := frozen_of (o := 2) b8); (have p7 := Pre.mk (heap_lt b8)); (have c9 := cell_of (o := 2) b8); simp at c7 c9; clear hA hWp b8)
  go_ret
  have e1 := set_blk (o := 0) (v := .slice a8 (ls.length + out.length) c8) B8.out rfl
  have e2 := set_blk (o := 2) (v := .int .i64 ep) e1 rfl
  have hl := ((Leaves.refl [155] W8).set (o := 0) (v := .slice a8 (ls.length + out.length) c8) B8.out (by simp)).set (o := 2) (v := .int .i64 ep) e1 (by simp)
  have hA := HA.out
  rw [List.length_append] at hA
  have hg := (hA.1.set (o := 0) H.out.b0 (.slice a8 (ls.length + out.length) c8)).set (o := 2) H.out.b0 (.int .i64 ep)
  have hq : ∀ q, q ≠ bk → ((W8.setCell ⟨bk, 0, none⟩ (.slice a8 (ls.length + out.length) c8)).setCell ⟨bk, 2, none⟩ (.int .i64 ep)).heap[q]? = W8.heap[q]? := fun q h => (set_other fun e => h e.symm).trans (set_other fun e => h e.symm)
  have hsz : W8.heap.size = ((W8.setCell ⟨bk, 0, none⟩ (.slice a8 (ls.length + out.length) c8)).setCell ⟨bk, 2, none⟩ (.int .i64 ep)).heap.size := by simp [World.size_setCell]
  clear e1 c0 c7 c9 f7 f9 p7
  generalize (W8.setCell ⟨bk, 0, none⟩ (.slice a8 (ls.length + out.length) c8)).setCell ⟨bk, 2, none⟩ (.int .i64 ep) = WS at *
  have hwp := HWP.out
  have hkq : ∀ q, q < W.heap.size → q ≠ bk → q ≠ mp → Value.ownBlock (.slice al ls.length cl) ≠ some q → WS.heap[q]? = W.heap[q]? := fun q h1 h2 h3 h4 => by
    have hq7 : q < W7.heap.size := Nat.lt_of_lt_of_le h1 K7.out.1
    exact (hq q h2).trans ((hA.2.2.2.1 q (Nat.lt_of_lt_of_le hq7 hwp.below.size) h4).trans ((hwp.below.block q hq7).trans (K7.out.2 q h1 h3)))
  have hmS : MapAt intS WS mp (n + 1) ((ep, (ls.length : Int)) :: m) := by
    refine H7.out.same ?_
    have hmb : mp ≠ bk := fun e => H7.out.nocells _ _ _ ((congrArg (fun x => W7.heap[x]?) e).trans B7.out)
    refine (hq mp hmb).trans ((hA.2.2.2.1 mp (Nat.lt_of_lt_of_le H7.out.lt hwp.below.size) fun e => ?_).trans (hwp.below.block mp H7.out.lt))
    obtain ⟨-, c, hc⟩ := OwnAt.block HO7.out e
    exact H7.out.nocells _ _ _ hc
  refine ⟨rfl, _, ⟨grew_heap (by repeat (first | with_reducible exact Grew.refl _ | apply Grew.more | apply Grew.alloc | apply Grew.drew | apply Grew.drewN)) e2, OwnAt.grew (hl.own hA.2.1 (by decide)) (by repeat (first | with_reducible exact Grew.refl _ | apply Grew.more | apply Grew.alloc | apply Grew.drew | apply Grew.drewN)), ⟨_, hmS.grew (by repeat (first | with_reducible exact Grew.refl _ | apply Grew.more | apply Grew.alloc | apply Grew.drew | apply Grew.drewN)), fun x hx9 => ?_⟩, H.out.b0, H.out.m0⟩, hg.trans (by repeat (first | with_reducible exact Grew.refl _ | apply Grew.more | apply Grew.alloc | apply Grew.drew | apply Grew.drewN)), fun q h1 h2 h3 h4 => ?_, fun q h1 => ?_, ?_⟩
  · rcases List.mem_cons.1 hx9 with rfl | hx9
    · exact Int.le_refl _
    · have := HLE.out x hx9; have := HXE.out; omega
  · have l5 : q < WS.heap.size := by rw [← hsz]; exact Nat.lt_of_lt_of_le (Nat.lt_of_lt_of_le (Nat.lt_of_lt_of_le h1 K7.out.1) hwp.below.size) hA.2.2.1
    exact ((Grew.below (by repeat (first | with_reducible exact Grew.refl _ | apply Grew.more | apply Grew.alloc | apply Grew.drew | apply Grew.drewN) : Grew WS _)).block q l5).trans (hkq q h1 h2 h3 h4)
  · rcases hA.2.2.2.2 q h1 with h | h
    · exact .inl h
    · exact .inr (Nat.le_trans (Nat.le_trans K7.out.1 hwp.below.size) h)
  · have h9 : W.heap.size ≤ WS.heap.size := by rw [← hsz]; exact Nat.le_trans (Nat.le_trans K7.out.1 hwp.below.size) hA.2.2.1
    exact Nat.le_trans h9 (Grew.below (by repeat (first | with_reducible exact Grew.refl _ | apply Grew.more | apply Grew.alloc | apply Grew.drew | apply Grew.drewN) : Grew WS _)).size
end Go.Proofs.YtipgfjihdglocaaGreat
/-! (*Coord).holds in general: what a coordinator keeps of all manifests. -/
namespace Go.Proofs.YtipgfjihdglocaaGreat
set_option linter.unusedSimpArgs false
set_option linter.unusedVariables false
open Go.RowKit Ga
set_option maxRecDepth 100000

theorem BookL.leaves {T : List TypeId} {base : Nat} {W W' : World} {bk mp n : Nat} {lv : Value} {ls : List Gr.Ln} {ep : Int} (h : BookL base W bk mp n lv ls ep) (g : Leaves T W W') (h1 : 155 ∉ T) (h2 : 122 ∉ T) : BookL base W' bk mp n lv ls ep := by
  obtain ⟨m, e1, e2⟩ := h.map
  exact ⟨g.at h.blk h1, g.own h.own h2, ⟨m, e1.leaves g, e2⟩, h.b0, h.m0⟩
theorem bookCommit_all {w0 W : World} {bk mp n : Nat} {lv : Value} {ls : List Gr.Ln} {ep e0 : Int} (h : BookL w0.heap.size W bk mp n lv ls e0) (hg : Grew w0 W) (hn : n ≤ 1000000) (he : inOk ep) {ax : Option Addr} {nx cx : Nat} {out : List Gr.Ln} (ho : OwnAt 0 122 5 encLn W (.slice ax nx cx) out) (hr : ∀ x ∈ out, lineB x = true) (hl : ls.length + out.length ≤ 1000000) (hc : e0 < ep ∨ (e0 = 0 ∧ ep = 0 ∧ out = [])) :
    Calls Tryz.prog 104 #[.pointer (some ⟨bk, 0, none⟩), .int .i64 ep, .slice ax nx cx] W fun e W' => ∃ (k : Int) (lv' : Value) (n' : Nat), e = .returned (.int .i64 k) ∧ n' ≤ n + 1 ∧ BookL w0.heap.size W' bk mp n' lv' (ls ++ out) ep ∧ Grew w0 W' ∧ (∀ q, q < W.heap.size → q ≠ bk → q ≠ mp → lv.ownBlock ≠ some q → W'.heap[q]? = W.heap[q]?) ∧ (∀ q, lv'.ownBlock = some q → lv.ownBlock = some q ∨ W.heap.size ≤ q) ∧ W.heap.size ≤ W'.heap.size := by
  rcases hc with hc | ⟨rfl, rfl, rfl⟩
  · refine (bookCommit_any h hg hn hc he ho hr hl).mono ?_
    rintro e W' ⟨rfl, lv', h1, h2⟩
    exact ⟨0, lv', n + 1, rfl, Nat.le_refl _, h1, h2⟩
  · refine (bookCommit_there h.blk).mono ?_
    rintro e W' ⟨rfl, g⟩
    exact ⟨_, lv, n, rfl, Nat.le_succ n, by rw [List.append_nil]; exact h.grew g, hg.trans g, fun q h1 _ _ _ => g.below.block q h1, fun q hq => .inl hq, g.below.size⟩
theorem mf_lines {m : Gr.Mf} (h : OkH m) : ∀ x ∈ m.out, lineB x = true := by
  intro x hx
  obtain ⟨a, b, c, d⟩ := h.r.ou x hx
  unfold lineB
  rw [numB_iff.2 a, numB_iff.2 b, numB_iff.2 ⟨c.1, by omega⟩, d]
  rfl
/-- what a coordinator has of all manifests -/
structure OpSt (w0 W : World) (z bk lg mp n : Nat) (hs : List Gr.Mf) (ls : List Gr.Ln) (last ep : Int) : Prop where
  st : ∃ (hv lv : Value) (cs : List MfC), W.heap[z]? = some (.cells #[.pointer (some ⟨bk, 0, none⟩), .pointer (some ⟨lg, 0, none⟩), hv, .slice none 0 0, .pointer none, .bool false, .int .i64 last, .int .i64 0] 83) ∧ OwnAt w0.heap.size 47 7 encMh W hv cs ∧ Rel (fun c m => MfOwn 0 W c m) cs hs ∧ BookL w0.heap.size W bk mp n lv ls ep ∧ ∀ b, lv.ownBlock = some b → ∀ c ∈ cs, (Value.slice c.ax c.nx c.cx).ownBlock ≠ some b
  ok : ∀ m ∈ hs, OkH m
  z0 : w0.heap.size ≤ z
  g : Grew w0 W
theorem OpSt.grew {w0 W W' : World} {z bk lg mp n : Nat} {hs : List Gr.Mf} {ls : List Gr.Ln} {last ep : Int} (h : OpSt w0 W z bk lg mp n hs ls last ep) (q : Grew W W') : OpSt w0 W' z bk lg mp n hs ls last ep := by
  obtain ⟨hv, lv, cs, h1, h2, h3, h4, h5⟩ := h.st
  exact ⟨⟨hv, lv, cs, grew_heap q h1, h2.grew q, Rel.mono (fun _ _ e => e.grew q) h3, h4.grew q, h5⟩, h.ok, h.z0, h.g.trans q⟩
/-- a manifest stays, where lines are written elsewhere -/
theorem MfOwn.kept {T : List TypeId} {W W' : World} {c : MfC} {m : Gr.Mf} (h : MfOwn 0 W c m) (g : CL T W W') (t1 : 3 ∉ T) (t2 : 187 ∉ T) (t3 : 52 ∉ T) (t4 : 69 ∉ T) (t5 : 115 ∉ T) (hx : ∀ b, (Value.slice c.ax c.nx c.cx).ownBlock = some b → W'.heap[b]? = W.heap[b]?) : MfOwn 0 W' c m := by
  obtain ⟨lc, h1, h2⟩ := h.g
  obtain ⟨lp, h3, h4⟩ := h.p
  exact ⟨h.epoch, h.plans, g.own h.o t1, ⟨lc, g.own h1 t3, g.nodes h2 t1 t2⟩, g.own h.e t5, OwnAt.same h.x hx, ⟨lp, g.own h3 t4, g.steps h4 t1 t2⟩⟩
theorem Rel.mem {α β : Type} {R : α → β → Prop} {P : α → Prop} : ∀ {xs : List α} {ys : List β}, Rel R xs ys → (∀ x ∈ xs, P x) → Rel (fun x y => R x y ∧ P x) xs ys
  | [], [], _, _ => trivial
  | x :: xs, y :: ys, h, k => ⟨⟨h.1, k x (List.mem_cons_self ..)⟩, Rel.mem h.2 fun z hz => k z (List.mem_cons_of_mem _ hz)⟩
theorem Rel.left {α β : Type} {R : α → β → Prop} {P : α → Prop} (k : ∀ x y, R x y → P x) : ∀ {xs : List α} {ys : List β}, Rel R xs ys → ∀ x ∈ xs, P x
  | [], [], _, x, hx => by cases hx
  | a :: xs, b :: ys, h, x, hx => by
    rcases List.mem_cons.1 hx with rfl | hx
    · exact k _ _ h.1
    · exact Rel.left k h.2 x hx
set_option maxHeartbeats 16000000 in
theorem coHolds_any {w0 wb W : World} {z bk lg mp n : Nat} {hs : List Gr.Mf} {ls : List Gr.Ln} {M : Gr.Mf} {last e0 : Int} {c : MfC} (h : OpSt w0 wb z bk lg mp n hs ls last e0) (hw : Grew wb W) (hm : MfOwn wb.heap.size W c M) (ok : OkH M) (hn : n ≤ 100000) (hms : hs.length ≤ 100000) (hll : ls.length ≤ 500000) (hc : e0 < M.epoch ∨ (e0 = 0 ∧ M.epoch = 0 ∧ M.out = [])) (hla : inOk last) :
    Calls Tryz.prog 42 #[.pointer (some ⟨z, 0, none⟩), .agg #[.int .i64 c.epoch, .int .i64 c.plans, .slice c.ao c.no c.co, .slice c.ag c.ng c.cg, .slice c.ae c.ne c.ce, .slice c.ax c.nx c.cx, .slice c.ap c.np c.cp]] W fun e W' => e = .returned (.tuple #[]) ∧ ∃ n', n' ≤ n + 1 ∧ OpSt w0 W' z bk lg mp n' (hs ++ [M]) (ls ++ M.out) (max last M.epoch) M.epoch ∧ CL [83, 47, 155, 122] W W' := by
  obtain ⟨hv, lv, cs, h1, ho, hr, hk, hsep⟩ := (h.grew hw).st
  have HSEP := Lib.hid hsep
  have HNEW : Hid (∀ b, lv.ownBlock = some b → (Value.slice c.ax c.nx c.cx).ownBlock ≠ some b) := Lib.hid fun b hb e => by
    obtain ⟨hv', lv', cs', k1, k2, k3, k4, k5⟩ := h.st
    have e1 := grew_heap hw k4.blk
    rw [hk.blk] at e1
    cases e1
    obtain ⟨-, c1, hc1⟩ := OwnAt.block k4.own hb
    have := heap_lt hc1
    obtain ⟨hge, -⟩ := OwnAt.block hm.x e
    omega
  have H : Hid (OpSt w0 W z bk lg mp n hs ls last e0) := Lib.hid (h.grew hw)
  have c2 := cell_of (o := 2) h1
  have f2 := frozen_of (o := 2) h1
  simp at c2
  have hb : Pre z W := heap_lt h1
  have hrl := Rel.len hr
  obtain ⟨ah, ch, rfl, -, -⟩ := OwnAt.rows ho encMh_len
  have H1 := Lib.hid h1
  have HO := Lib.hid ho
  have HR := Lib.hid hr
  have HK := Lib.hid hk
  have HM := Lib.hid hm.low
  have HOK := Lib.hid ok
  have HNN : Hid ((n ≤ 100000 ∧ hs.length ≤ 100000) ∧ cs.length = hs.length) := Lib.hid ⟨⟨hn, hms⟩, hrl⟩
  have HC := Lib.hid hc
  have HLL := Lib.hid hll
  have HLA := Lib.hid hla
  have hep := hm.epoch
  obtain ⟨ep, pl, ao, no, co, ag, ng, cg, ae, ne, ce, ax, nx, cx, ap, np, cp⟩ := c
  simp only at hep
  have HEP := Lib.hid hep
  clear h h1 hk hm ok hr ho hrl hn hms hc hll hep hsep hw hla
  go_enter Tryz.func42, Tryz.ntmps42
  go_upto_region 1 with fail
  refine wp_region_noPanic ?_
  go_region_law (first
    | (refine step_ownS (w0 := w0) (v := .slice ah cs.length ch) rfl (.tmp 8) (.tmp 10) 60 _ _ _ _ [(⟨ep, pl, ao, no, co, ag, ng, cg, ae, ne, ce, ax, nx, cx, ap, np, cp⟩ : MfC)] rfl Tryz.underlying60 infoMh rfl (by decide) encMh_len encMh_one rfl (OwnAt.grew HO.out (by repeat (first | with_reducible exact Grew.refl _ | apply Grew.more | apply Grew.alloc | apply Grew.drew | apply Grew.drewN))) (H.out.g.trans (by repeat (first | with_reducible exact Grew.refl _ | apply Grew.more | apply Grew.alloc | apply Grew.drew | apply Grew.drewN))) rfl (mh_at _ _ _ _ rfl (by simp [go_sem])) (by have := HNN.out; simp; omega) (by decide) (by simp) ?_; intro v8 W8 hA; (obtain ⟨a8, c8, hv8⟩ := (OwnAt.rows hA.2.1 encMh_len).len); (obtain ⟨n8, hn8⟩ : ∃ n8, (cs ++ ([(⟨ep, pl, ao, no, co, ag, ng, cg, ae, ne, ce, ax, nx, cx, ap, np, cp⟩ : MfC)] : List MfC)).length = n8 := ⟨_, rfl⟩); (rw [hn8] at hv8); (subst hv8); (clear hn8); (have hM8 := own_cells (OwnAt.grew HO.out (by repeat (first | with_reducible exact Grew.refl _ | apply Grew.more | apply Grew.alloc | apply Grew.drew | apply Grew.drewN))) (grew_heap (by repeat (first | with_reducible exact Grew.refl _ | apply Grew.more | apply Grew.alloc | apply Grew.drew | apply Grew.drewN)) H1.out) (by decide) hA); (obtain ⟨u8, hu8⟩ : ∃ u, W8.cell? ⟨z, 2, none⟩ = some u := ⟨_, (cell_of hM8).trans rfl⟩); (have f8 := frozen_of (o := 2) hM8); (have p8 := Pre.mk (heap_lt hM8)); (have HA := Lib.hid hA); clear hA hM8))
  all_goals
    refine NoPanic.normal ?_
    obtain ⟨Wp, hA, hWp, hbp⟩ : ∃ Wp, Appended w0 47 7 encMh Wp (.slice ah cs.length ch) (cs ++ [(⟨ep, pl, ao, no, co, ag, ng, cg, ae, ne, ce, ax, nx, cx, ap, np, cp⟩ : MfC)]) (.slice a8 n8 c8) W8 ∧ Grew W Wp ∧ Wp.heap[W.heap.size]? = some (.cells #[.int .i64 ep, .int .i64 pl, .slice ao no co, .slice ag ng cg, .slice ae ne ce, .slice ax nx cx, .slice ap np cp] 47) := ⟨_, HA.out, by repeat (first | with_reducible exact Grew.refl _ | apply Grew.more | apply Grew.alloc | apply Grew.drew | apply Grew.drewN), grew_heap (by repeat (first | with_reducible exact Grew.refl _ | apply Grew.more | apply Grew.alloc | apply Grew.drew | apply Grew.drewN)) (heap_new_at W _ _ rfl)⟩
    have hop := OwnAt.grew HO.out hWp
    have hz8 := own_cells hop (grew_heap hWp H1.out) (by decide) hA
    have hb8 : W8.heap[W.heap.size]? = _ := (hA.2.2.2.1 _ (heap_lt hbp) fun e => by
      obtain ⟨-, c, hc⟩ := OwnAt.block HO.out e
      exact absurd (heap_lt hc) (Nat.lt_irrefl _)).trans hbp
    have hl8 : Leaves [83, 47] W W8 := Leaves.app (Leaves.grew hWp) hop hA (by simp)
    have e9 := set_blk (o := 2) (v := .slice a8 n8 c8) hz8 rfl
    have hl89 := (Leaves.refl [83] W8).set (o := 2) (v := .slice a8 n8 c8) hz8 (by simp)
    have hl9 := hl8.trans (hl89.mono (T' := [83, 47]) (by simp))
    have ho9 := hl89.own hA.2.1 (by decide)
    have hg9 := Grew.set hA.1 H.out.z0 (.slice a8 n8 c8) (o := 2)
    have hb9 := hl89.at hb8 (by decide)
    have hs9 : W.heap.size ≤ (W8.setCell ⟨z, 2, none⟩ (.slice a8 n8 c8)).heap.size := by rw [World.size_setCell]; exact Nat.le_trans hWp.below.size hA.2.2.1
    clear f8 p8 hu8 hl8 hl89 hb8 hz8 hop hbp hA hWp HA c2 f2 hb
    clear u8
    generalize W8.setCell ⟨z, 2, none⟩ (.slice a8 n8 c8) = WB at *
    clear W8
    have HS9 := Lib.hid hs9
    clear hs9
    obtain ⟨tb, htb⟩ : ∃ tb, W.heap.size = tb := ⟨_, rfl⟩
    rw [htb] at hb9 ⊢
    have HTB := Lib.hid htb
    clear htb
    have HZ9 := Lib.hid e9
    have HO9 := Lib.hid ho9
    have HG9 := Lib.hid hg9
    have HL9 := Lib.hid hl9
    have c6 := cell_of (o := 6) e9
    have f6 := frozen_of (o := 6) e9
    have t0 := cell_of (o := 0) hb9
    simp at c6 t0
    have hbz : Pre z WB := heap_lt e9
    have hbt : Pre tb WB := heap_lt hb9
    have HB9 := Lib.hid hb9
    clear e9 ho9 hg9 hl9 hb9
    have hmx := run_max Tryz.prog
    go_wp2_with fail
    refine wp_region_seq 8 Tryz.mixed (by kernel_rfl) (by kernel_rfl) ?_
    iterate 8
      apply Seq.val
      focus
        rintro w1 u ⟨R1, n1, rfl⟩ hF
        simp [moreFacts, Fact.more, Oper.deps, Region.binds, List.filter_cons, World.more_drew] at hF
        simp [putFacts, Oper.deps, Region.binds, List.filter_cons, Region.dstOf, Fact.at, Act.put, World.more_drew]
        go_wp2
        exact ⟨by repeat (first | with_reducible exact Grew.refl _ | apply Grew.more | apply Grew.alloc | apply Grew.drew | apply Grew.drewN), rfl, _, _, rfl, rfl, rfl⟩
    rintro u w1 ⟨R1, n1, rfl⟩ hF
    clear hF
    simp [putFacts, Region.dstOf, Fact.at, Act.put, List.range_succ, World.more_drew]
    go_wp2_with fail
    have e6 := set_blk (o := 6) (v := .int .i64 (max last ep)) HZ9.out rfl
    have hl6 := (Leaves.refl [83] WB).set (o := 6) (v := .int .i64 (max last ep)) HZ9.out (by simp)
    have hg6 := HG9.out.set (o := 6) H.out.z0 (.int .i64 (max last ep))
    clear c6 f6 t0 hbz hbt hmx
    have hs6 : WB.heap.size = (WB.setCell ⟨z, 6, none⟩ (.int .i64 (max last ep))).heap.size := by rw [World.size_setCell]
    generalize WB.setCell ⟨z, 6, none⟩ (.int .i64 (max last ep)) = WC at *
    have HS6 := Lib.hid hs6
    clear hs6
    have hb6 := hl6.at HB9.out (by decide)
    have c0 := cell_of (o := 0) e6
    have t0 := cell_of (o := 0) hb6
    have t5 := cell_of (o := 5) hb6
    simp at c0 t0 t5
    have hbz : Pre z WC := heap_lt e6
    have hbt : Pre tb WC := heap_lt hb6
    have HE6 := Lib.hid e6
    have HL6 := Lib.hid hl6
    have HG6 := Lib.hid hg6
    have hkC : BookL w0.heap.size WC bk mp n lv ls e0 := (HK.out.leaves HL9.out (by decide) (by decide)).leaves hl6 (by decide) (by decide)
    have hLC : CL [83, 47] W WC := (HL9.out.trans (HL6.out.mono (by simp))).cl
    have hsC : W.heap.size ≤ WC.heap.size := by rw [← HS6.out]; exact HS9.out
    have HCM := Lib.hid fun W' (g : Grew WC W') => bookCommit_all (ep := ep) (hkC.grew g) (hg6.trans g) (by have := HNN.out; omega) (by have := HEP.out; have := HOK.out.r.ep; unfold inOk; omega) ((hLC.own HM.out.x (by decide)).grew g) (mf_lines HOK.out) (by have := HLL.out; have := HOK.out.o; omega) (by have := HEP.out; rcases HC.out with h | ⟨h1, h2, h3⟩; exact .inl (by omega); exact .inr ⟨h1, by omega, h3⟩)
    have HKC := Lib.hid hkC
    have HLC := Lib.hid hLC
    have HSC := Lib.hid hsC
    clear e6 hl6 hg6 hb6 hkC hLC hsC
    refine wp_region_seq 8 Tryz.mixed (by kernel_rfl) (by kernel_rfl) ?_
    iterate 8
      apply Seq.val
      focus
        rintro w1 u ⟨R1, n1, rfl⟩ hF
        simp [moreFacts, Fact.more, Oper.deps, Region.binds, List.filter_cons, World.more_drew] at hF
        simp [putFacts, Oper.deps, Region.binds, List.filter_cons, Region.dstOf, Fact.at, Act.put, World.more_drew]
        go_wp2
        exact ⟨by repeat (first | with_reducible exact Grew.refl _ | apply Grew.more | apply Grew.alloc | apply Grew.drew | apply Grew.drewN), rfl, _, _, rfl, rfl, rfl⟩
    rintro u w1 ⟨R1, n1, rfl⟩ hF
    clear hF
    simp [putFacts, Region.dstOf, Fact.at, Act.put, List.range_succ, World.more_drew]
    go_wp2_with (go_at_call 104; refine (HCM.out _ (by repeat (first | with_reducible exact Grew.refl _ | apply Grew.more | apply Grew.alloc | apply Grew.drew | apply Grew.drewN))).mono ?_; rintro e w5 ⟨k5, lv5, m5, rfl, hm5, hk5, hg5, hq5, ho5, hs5⟩; (have hq6 : ∀ q, q < WC.heap.size → q ≠ bk → q ≠ mp → lv.ownBlock ≠ some q → w5.heap[q]? = WC.heap[q]? := fun q h1 h2 h3 h4 => (hq5 q (Nat.lt_of_lt_of_le h1 (Grew.below (by repeat (first | with_reducible exact Grew.refl _ | apply Grew.more | apply Grew.alloc | apply Grew.drew | apply Grew.drewN) : Grew WC _)).size) h2 h3 h4).trans ((Grew.below (by repeat (first | with_reducible exact Grew.refl _ | apply Grew.more | apply Grew.alloc | apply Grew.drew | apply Grew.drewN) : Grew WC _)).block q h1)); (have ho6 : ∀ q, lv5.ownBlock = some q → lv.ownBlock = some q ∨ W.heap.size ≤ q := fun q hq => (ho5 q hq).imp id fun h => Nat.le_trans (Nat.le_trans HSC.out (Grew.below (by repeat (first | with_reducible exact Grew.refl _ | apply Grew.more | apply Grew.alloc | apply Grew.drew | apply Grew.drewN) : Grew WC _)).size) h); clear hq5 ho5)
    obtain ⟨mx, hmx, -⟩ := HKC.out.map
    have hne : ∀ q c t f, WC.heap[q]? = some (.cells c t f) → t ∉ [155, 122] → q ≠ bk ∧ q ≠ mp ∧ lv.ownBlock ≠ some q := fun q c t f hq ht => ⟨fun e => by
        rw [e, HKC.out.blk] at hq
        cases hq
        exact ht (by simp), fun e => hmx.nocells _ _ _ (e ▸ hq), fun e => by
        obtain ⟨-, c1, hc1⟩ := OwnAt.block HKC.out.own e
        rw [hc1] at hq
        cases hq
        exact ht (by simp)⟩
    have hcl5 : CL [155, 122] WC w5 := fun q c t f hq ht => by
      obtain ⟨q1, q2, q3⟩ := hne q c t f hq ht
      exact (hq6 q (heap_lt hq) q1 q2 q3).trans hq
    have hall : CL [83, 47, 155, 122] W w5 := (HLC.out.mono (by simp)).trans (hcl5.mono (by simp))
    have hxl : ∀ (c : MfC) (m : Gr.Mf), MfOwn 0 W c m → (∀ b, lv.ownBlock = some b → (Value.slice c.ax c.nx c.cx).ownBlock ≠ some b) → MfOwn 0 w5 c m := fun c m h hs => h.kept hall (by simp) (by simp) (by simp) (by simp) (by simp) fun b hb => by
      obtain ⟨-, c1, hc1⟩ := OwnAt.block h.x hb
      have h2 := HLC.out _ _ _ _ hc1 (by simp)
      have h3 : b ≠ bk := fun e => by rw [e, HKC.out.blk] at h2; cases h2
      have h4 : b ≠ mp := fun e => hmx.nocells _ _ _ ((congrArg (fun x => WC.heap[x]?) e).symm.trans h2)
      rw [hq6 b (heap_lt h2) h3 h4 fun e => hs b e hb, h2, hc1]
    have hlt : ∀ (c : MfC) (m : Gr.Mf), MfOwn 0 W c m → ∀ b, (Value.slice c.ax c.nx c.cx).ownBlock = some b → b < W.heap.size := fun c m h b hb => by
      obtain ⟨-, c1, hc1⟩ := OwnAt.block h.x hb
      exact heap_lt hc1
    have hz5 := hcl5 _ _ _ _ HE6.out (by decide)
    have ho5 := hcl5.own (HL6.out.own HO9.out (by decide)) (by decide)
    refine bodyPost_end (v := .tuple #[]) (results_none rfl _ _ _) rfl ⟨rfl, m5, hm5, ⟨⟨_, lv5, cs ++ [(⟨ep, pl, ao, no, co, ag, ng, cg, ae, ne, ce, ax, nx, cx, ap, np, cp⟩ : MfC)], ?_, OwnAt.grew ho5 (by repeat (first | with_reducible exact Grew.refl _ | apply Grew.more | apply Grew.alloc | apply Grew.drew | apply Grew.drewN)), ?_, ?_, ?_⟩, ?_, H.out.z0, hg5.trans (by repeat (first | with_reducible exact Grew.refl _ | apply Grew.more | apply Grew.alloc | apply Grew.drew | apply Grew.drewN))⟩, hall.trans (CL.grew (by repeat (first | with_reducible exact Grew.refl _ | apply Grew.more | apply Grew.alloc | apply Grew.drew | apply Grew.drewN)))⟩
    · rw [HEP.out]
      exact grew_heap (by repeat (first | with_reducible exact Grew.refl _ | apply Grew.more | apply Grew.alloc | apply Grew.drew | apply Grew.drewN)) hz5
    · exact Rel.snoc (Rel.mono (fun _ _ q => (hxl _ _ q.1 q.2).grew (by repeat (first | with_reducible exact Grew.refl _ | apply Grew.more | apply Grew.alloc | apply Grew.drew | apply Grew.drewN))) (Rel.mem HR.out fun c hc b hb => HSEP.out b hb c hc)) ((hxl _ _ HM.out HNEW.out).grew (by repeat (first | with_reducible exact Grew.refl _ | apply Grew.more | apply Grew.alloc | apply Grew.drew | apply Grew.drewN)))
    · rw [HEP.out]
      exact hk5.grew (by repeat (first | with_reducible exact Grew.refl _ | apply Grew.more | apply Grew.alloc | apply Grew.drew | apply Grew.drewN))
    · intro b hb c hc
      rcases ho6 b hb with h | h
      · rcases List.mem_append.1 hc with hc | hc
        · exact HSEP.out b h c hc
        · rw [List.mem_singleton.1 hc]; exact HNEW.out b h
      · intro e
        have : b < W.heap.size := by
          rcases List.mem_append.1 hc with hc | hc
          · exact Rel.left (fun x y q => hlt x y q) HR.out c hc b e
          · rw [List.mem_singleton.1 hc] at e; exact hlt _ _ HM.out b e
        omega
    · intro m hm
      rcases List.mem_append.1 hm with hm | hm
      · exact H.out.ok m hm
      · rw [List.mem_singleton.1 hm]; exact HOK.out
end Go.Proofs.YtipgfjihdglocaaGreat
/-! What a manifest's bytes make right; (*Coord).follows in general. -/
namespace Go.Proofs.YtipgfjihdglocaaGreat
set_option linter.unusedSimpArgs false
set_option linter.unusedVariables false
open Go.RowKit Ga
set_option maxRecDepth 100000

theorem smallO {l : List Gr.Nd} (h : Gr.RightR l) : Small l := by
  intro n hn
  obtain ⟨i, hi, e⟩ := List.mem_iff_getElem.1 hn
  have ho := h.ok i n (by rw [List.getElem?_eq_getElem hi, e])
  refine ⟨Nat.le_trans ho.fr3 (by decide), ?_⟩
  by_cases hk : n.kind = 1
  · have h9 := (Co.fits_parts (safe_fits (ho.p1 hk) : Co.fitsI n.prog = true)).1
    omega
  · rw [ho.p0 hk]; decide
theorem planO {p : List Gr.Stp} (h : p = [] ∨ Gr.OkPl fitsP p ∧ ∀ x ∈ p, Gr.cleanS x = x) : (∀ s ∈ p, s.nd.frm.length ≤ 100 ∧ s.nd.prog.length ≤ 1000) ∧ p.length ≤ 6 := by
  rcases h with rfl | ⟨⟨-, h0, h1⟩, h2⟩
  · exact ⟨(fun s hs => by cases hs), by simp⟩
  · refine ⟨fun s hs => ?_, h0⟩
    have h3 := (h1 s hs).2
    rw [h2 s hs] at h3
    have h4 := (Co.fits_parts (show Co.fitsI s.nd.prog = true from h3.p)).1
    exact ⟨Nat.le_trans h3.m (by decide), by omega⟩
/-- what bytes make is right -/
theorem getMB_ok {s : List UInt8} {m : Gr.Mf} (h : getMB s = (m, 0)) (hs : s.length ≤ 3000) : OkH m ∧ m.out.length ≤ 150 := by
  unfold getMB at h
  by_cases h1 : endE (Gr.manS getL (s, 0)).2 true = 0
  · rw [if_neg (by simpa using h1)] at h
    by_cases h2 : rightB (Gr.manS getL (s, 0)).1 = true
    · rw [if_pos h2] at h
      have hm : (Gr.manS getL (s, 0)).1 = m := congrArg Prod.fst h
      rw [hm] at h2
      have hr := rightB_iff.1 h2
      obtain ⟨t, rfl⟩ : ∃ t, (Gr.manS getL (s, 0)).2 = t := ⟨_, rfl⟩
      have h3 : (Gr.manS getL (s, 0)).2 = ([], 0) := by
        unfold endE at h1
        by_cases h4 : (Gr.manS getL (s, 0)).2.2 = 0
        · rw [if_neg (by simpa using h4)] at h1
          by_cases h5 : 0 < (Gr.manS getL (s, 0)).2.1.length
          · rw [decide_eq_true h5] at h1; simp at h1
          · exact Prod.ext (List.length_eq_zero_iff.1 (by omega)) h4
        · rw [if_pos h4] at h1; exact absurd h1 h4
      obtain ⟨-, a2, a3⟩ := (Gr.man_item codecI).can (s, 0) m [] (by rw [← hm, ← h3])
      rw [List.append_nil] at a2
      have a2' : s = Gr.putM putI m := a2
      have hl : (Gr.putM putI m).length ≤ 3000 := by rw [← a2']; exact hs
      obtain ⟨p1, p2⟩ := planO hr.pn
      have hl9 : (Gr.putM putI m).length ≤ 100000 := by omega
      have ho : m.out.length ≤ 150 := by
        have h6 := flat_lenE Gr.putLn 20 putLn_len m.out
        rw [putM_eq] at hl
        simp only [List.length_append] at hl
        omega
      exact ⟨⟨hr, smallO hr.gr, p1, by omega, fun n hn => (a3.2.2.2.1.2 n hn).ol, hl9⟩, ho⟩
    · rw [if_neg h2] at h
      cases h
  · rw [if_pos (by simpa using h1)] at h
    exact absurd (congrArg Prod.snd h) h1
/-- what stands behind the others, as far as it matters here -/
def Fol (hs : List Gr.Mf) (M : Gr.Mf) : Prop := (hs = [] ∧ M.epoch = 0 ∧ M.out = []) ∨ ∃ ms p, hs = ms ++ [p] ∧ p.epoch < M.epoch
def FolPost (hs : List Gr.Mf) (M : Gr.Mf) (W : World) (e : Ending) (W' : World) : Prop := ∃ b : Bool, Gives (.bool b) W e W' ∧ (b = true → Fol hs M)
theorem FolPost.mk {hs : List Gr.Mf} {M : Gr.Mf} {W W' : World} {e : Ending} (b : Bool) (h : Gives (.bool b) W e W') (k : b = true → Fol hs M) : FolPost hs M W e W' := ⟨b, h, k⟩
set_option maxHeartbeats 16000000 in
theorem coFollows_first {w0 W : World} {z bk lg mp n : Nat} {ls : List Gr.Ln} {M : Gr.Mf} {last e0 : Int} {c : MfC} (h : OpSt w0 W z bk lg mp n [] ls last e0) (hm : MfOwn 0 W c M) (ok : OkH M) :
    Calls Tryz.prog 41 #[.pointer (some ⟨z, 0, none⟩), .agg #[.int .i64 c.epoch, .int .i64 c.plans, .slice c.ao c.no c.co, .slice c.ag c.ng c.cg, .slice c.ae c.ne c.ce, .slice c.ax c.nx c.cx, .slice c.ap c.np c.cp]] W (FolPost [] M W) := by
  obtain ⟨hv, lv, cs, h1, ho, hr, -, -⟩ := h.st
  have hcs : cs = [] := List.length_eq_zero_iff.1 (by have := Rel.len hr; simpa using this)
  subst hcs
  obtain ⟨ah, ch, rfl, -, -⟩ := OwnAt.rows ho encMh_len
  have c2 := cell_of (o := 2) h1
  simp at c2
  have hb : Pre z W := heap_lt h1
  obtain ⟨a1, b1, q1⟩ := (OwnAt.rows hm.x encLn_len).len
  obtain ⟨a2, b2, q2⟩ := (OwnAt.rows hm.e encEn_len).len
  obtain ⟨a3, b3, q3, -⟩ := hm.is.p.openC
  have hep := hm.epoch
  have hpl := hm.plans
  have hx3 := ok.o
  have he5 := ents_512 ok.r
  have hp6 := (planO ok.r.pn).2
  obtain ⟨ep, pl, ao, no, co, ag, ng, cg, ae, ne, ce, ax, nx, cx, ap, np, cp⟩ := c
  simp only at hep hpl
  cases q1; cases q2; cases q3
  have HEP := Lib.hid hep
  have HOUT : Hid (M.out.length = 0 → M.out = []) := Lib.hid List.length_eq_zero_iff.1
  clear h h1 ho hr hm ok hep hpl
  generalize M.out.length = x at *
  generalize M.ents.length = y at *
  generalize M.plan.length = q at *
  have s1 : (x : Int) + q ≤ 9223372036854775807 := by omega
  have s2 : (x : Int) + q + y ≤ 9223372036854775807 := by omega
  have HX : Hid ((x : Int) + q + y = 0 → x = 0) := Lib.hid fun h => by omega
  clear hx3 he5 hp6
  by_cases h0 : ep = 0
  · have h0b : (ep == 0) = true := by rw [beq_iff_eq]; exact h0
    by_cases h1 : pl = 0
    · have h1b : (pl == 0) = true := by rw [beq_iff_eq]; exact h1
      have HE0 : Hid (M.epoch = 0) := Lib.hid (HEP.out.trans h0)
      clear h0 h1
      go_enter Tryz.func41, Tryz.ntmps41
      go_wp2
      go_ret
      refine .mk _ ⟨rfl, by repeat (first | with_reducible exact Grew.refl _ | apply Grew.more | apply Grew.alloc | apply Grew.drew | apply Grew.drewN)⟩ fun h => .inl ⟨rfl, HE0.out, HOUT.out ?_⟩
      have h2 : (x : Int) + q + y = 0 := by first | exact beq_iff_eq.1 h | simpa using h | (simp at h; omega)
      have := HX.out h2
      omega
    · have h1b : (pl == 0) = false := by rw [beq_eq_false_iff_ne]; exact h1
      clear h0 h1
      go_enter Tryz.func41, Tryz.ntmps41
      go_wp2
      go_ret
      exact .mk false ⟨rfl, by repeat (first | with_reducible exact Grew.refl _ | apply Grew.more | apply Grew.alloc | apply Grew.drew | apply Grew.drewN)⟩ (by simp)
  · have h0b : (ep == 0) = false := by rw [beq_eq_false_iff_ne]; exact h0
    clear h0
    go_enter Tryz.func41, Tryz.ntmps41
    go_wp2
    go_ret
    exact .mk false ⟨rfl, by repeat (first | with_reducible exact Grew.refl _ | apply Grew.more | apply Grew.alloc | apply Grew.drew | apply Grew.drewN)⟩ (by simp)
theorem coMan2_any {w0 W : World} {z bk lg mp n : Nat} {hs : List Gr.Mf} {p : Gr.Mf} {ls : List Gr.Ln} {last e0 : Int} (h : OpSt w0 W z bk lg mp n (hs ++ [p]) ls last e0) : Calls Tryz.prog 16 #[.pointer (some ⟨z, 0, none⟩)] W fun e w' => ∃ c' : MfC, e = .returned (.agg #[.int .i64 c'.epoch, .int .i64 c'.plans, .slice c'.ao c'.no c'.co, .slice c'.ag c'.ng c'.cg, .slice c'.ae c'.ne c'.ce, .slice c'.ax c'.nx c'.cx, .slice c'.ap c'.np c'.cp]) ∧ MfOwn 0 w' c' p ∧ Grew W w' := by
  obtain ⟨hv, lv, cs, h1, ho, hr, -, -⟩ := h.st
  exact coManifest_any (base := w0.heap.size) h1 rfl ⟨cs, ho, hr⟩ (h.ok p (by simp))
set_option maxHeartbeats 16000000 in
theorem coFollows_next {w0 W : World} {z bk lg mp n : Nat} {hs : List Gr.Mf} {p : Gr.Mf} {ls : List Gr.Ln} {M : Gr.Mf} {last e0 : Int} {c : MfC} (h : OpSt w0 W z bk lg mp n (hs ++ [p]) ls last e0) (hm : MfOwn 0 W c M) (ok : OkH M) (hms : hs.length ≤ 100000) :
    Calls Tryz.prog 41 #[.pointer (some ⟨z, 0, none⟩), .agg #[.int .i64 c.epoch, .int .i64 c.plans, .slice c.ao c.no c.co, .slice c.ag c.ng c.cg, .slice c.ae c.ne c.ce, .slice c.ax c.nx c.cx, .slice c.ap c.np c.cp]] W (FolPost (hs ++ [p]) M W) := by
  have HMA := Lib.hid fun W' (g : Grew W W') => coMan2_any (h.grew g)
  have hpp := (h.ok p (by simp)).r.pl
  obtain ⟨hv, lv, cs, h1, ho, hr, -, -⟩ := h.st
  have hrl := Rel.len hr
  obtain ⟨ah, ch, rfl, -, -⟩ := OwnAt.rows ho encMh_len
  have c2 := cell_of (o := 2) h1
  simp at c2
  have hb : Pre z W := heap_lt h1
  obtain ⟨a3, b3, q3, -⟩ := hm.is.p.openC
  have hep := hm.epoch
  have hp6 := (planO ok.r.pn).2
  rw [List.length_append, List.length_singleton] at hrl
  have hn0 : ((cs.length : Int) == 0) = false := by rw [beq_eq_false_iff_ne]; omega
  have hcz : (cs.length : Int) ≤ 9223372036854775807 := by omega
  obtain ⟨ep, pl, ao, no, co, ag, ng, cg, ae, ne, ce, ax, nx, cx, ap, np, cp⟩ := c
  simp only at hep
  cases q3
  have HEP := Lib.hid hep
  clear h h1 ho hr hm ok hep hrl hms
  generalize M.plan.length = q at *
  by_cases hq : (0 : Int) < q
  case' pos => have hq1 : p.plans + 1 ≤ 9223372036854775807 := by omega
  case' pos => have hq2 : -9223372036854775808 ≤ p.plans + 1 := by omega
  all_goals
    by_cases hlt : p.epoch < ep
    all_goals
      clear hpp hp6
      go_enter Tryz.func41, Tryz.ntmps41
      go_wp2_with (go_at_call 16; refine (HMA.out _ (by repeat (first | with_reducible exact Grew.refl _ | apply Grew.more | apply Grew.alloc | apply Grew.drew | apply Grew.drewN))).mono ?_; rintro e w6 ⟨⟨ep2, pl2, ao2, no2, co2, ag2, ng2, cg2, ae2, ne2, ce2, ax2, nx2, cx2, ap2, np2, cp2⟩, rfl, hm6, R6, n6, rfl⟩; (obtain rfl : ep2 = p.epoch := hm6.epoch.symm); (obtain rfl : pl2 = p.plans := hm6.plans.symm); clear hm6)
      go_ret
      refine .mk _ ⟨rfl, by repeat (first | with_reducible exact Grew.refl _ | apply Grew.more | apply Grew.alloc | apply Grew.drew | apply Grew.drewN)⟩ fun h => .inr ⟨hs, p, rfl, ?_⟩
      rw [HEP.out]
      first | exact hlt | (exfalso; simp at h)
end Go.Proofs.YtipgfjihdglocaaGreat
