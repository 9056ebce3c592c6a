import Derived.Test.YtangapokicnfgaaGreatMr24
import Derived.Test.YtangapokicnfgaaGreatMr8
/-! pack's reader: num, prog, list, end. -/
namespace Go.Proofs.YtangapokicnfgaaGreat
set_option linter.unusedSimpArgs false
set_option linter.unusedVariables false
open Go.RowKit Ga
set_option maxRecDepth 100000

/-- pack's reader at block A: octet's at block B; what is left, and the first error -/
def RdAt (base A B : Nat) (W : World) (s : Gr.Rs) : Prop := base ≤ A ∧ W.heap[A]? = some (.cells #[.pointer (some ⟨B, 0, none⟩), .int .i64 s.2] 82) ∧ ReaderAt base B W s.1
def Keep2 (A B : Nat) (w w' : World) : Prop := w.heap.size ≤ w'.heap.size ∧ ∀ q, q < w.heap.size → q ≠ A → q ≠ B → w'.heap[q]? = w.heap[q]?
theorem Keep2.refl (A B : Nat) (w : World) : Keep2 A B w w := ⟨Nat.le_refl _, fun _ _ _ _ => rfl⟩
theorem Keep2.trans {A B : Nat} {a b c : World} (h : Keep2 A B a b) (k : Keep2 A B b c) : Keep2 A B a c :=
  ⟨Nat.le_trans h.1 k.1, fun q hq h1 h2 => (k.2 q (Nat.lt_of_lt_of_le hq h.1) h1 h2).trans (h.2 q hq h1 h2)⟩
theorem Keep2.ofGrew {A B : Nat} {w w' : World} (g : Grew w w') : Keep2 A B w w' := ⟨g.below.size, fun q hq _ _ => g.below.block q hq⟩
theorem Keep2.ofKeep {A B : Nat} {w w' : World} (k : Keep B w w') : Keep2 A B w w' := ⟨k.1, fun q hq _ h => k.2 q hq h⟩
theorem Keep2.set {A B : Nat} {w : World} {o : Nat} {v : Value} : Keep2 A B w (w.setCell ⟨A, o, none⟩ v) := ⟨by rw [World.size_setCell]; exact Nat.le_refl _, fun q hq h _ => set_other fun e => h e.symm⟩
theorem RdAt.ne {base A B : Nat} {W : World} {s : Gr.Rs} (h : RdAt base A B W s) : A ≠ B := fun e => by
  have h1 := h.2.1
  rw [e, h.2.2.2] at h1
  cases h1
theorem RdAt.grew {base A B : Nat} {W W' : World} {s : Gr.Rs} (h : RdAt base A B W s) (g : Grew W W') : RdAt base A B W' s := ⟨h.1, grew_heap g h.2.1, h.2.2.grew g⟩
theorem RdAt.put {base A B : Nat} {W W1 : World} {s : Gr.Rs} {z : List UInt8} {e : Int} (h : RdAt base A B W s) (hr : ReaderAt base B W1 z) (hk : Keep B W W1) : W1.heap[A]? = some (.cells #[.pointer (some ⟨B, 0, none⟩), .int .i64 s.2] 82) ∧ RdAt base A B (W1.setCell ⟨A, 1, none⟩ (.int .i64 e)) (z, e) := by
  have hA : W1.heap[A]? = some (.cells #[.pointer (some ⟨B, 0, none⟩), .int .i64 s.2] 82) := by rw [hk.2 A (heap_lt h.2.1) h.ne]; exact h.2.1
  exact ⟨hA, h.1, by rw [set_self hA]; rfl, hr.1, by rw [set_other h.ne]; exact hr.2⟩
theorem wn_len (s : List UInt8) (a b : Int) : (Gr.wn s a b).2.2.length ≤ s.length := within_len s a b
theorem numS_len (a b : Int) (s : Gr.Rs) : (Gr.numS a b s).2.1.length ≤ s.1.length := by
  unfold Gr.numS
  split
  · exact Nat.le_refl _
  · exact wn_len _ _ _
theorem numS_range {a b : Int} (s : Gr.Rs) (ha : a ≤ 0) (hb : 0 ≤ b) : a ≤ (Gr.numS a b s).1 ∧ (Gr.numS a b s).1 ≤ b := by
  unfold Gr.numS
  split
  · exact ⟨ha, hb⟩
  · unfold Gr.wn
    split
    · exact ⟨ha, hb⟩
    · split
      · exact ⟨ha, hb⟩
      · simp only; omega
def RdPost (w0 W : World) (A B : Nat) (v : Value) (s : Gr.Rs) (e : Ending) (W' : World) : Prop := e = .returned v ∧ RdAt w0.heap.size A B W' s ∧ Grew w0 W' ∧ Keep2 A B W W'
set_option maxHeartbeats 4000000 in
theorem rdNum_any (w0 : World) (A B : Nat) (s : Gr.Rs) (a b : Int) (W : World) (h : RdAt w0.heap.size A B W s) (hg : Grew w0 W) (hs : s.1.length ≤ 1000000) :
    Calls Tryz.prog 46 #[.pointer (some ⟨A, 0, none⟩), .int .i64 a, .int .i64 b] W (RdPost w0 W A B (.int .i64 (Gr.numS a b s).1) (Gr.numS a b s).2) := by
  have H := Lib.hid h
  have HG := Lib.hid hg
  have c0 := cell_of (o := 0) h.2.1
  have c1 := cell_of (o := 1) h.2.1
  have f1 := frozen_of (o := 1) h.2.1
  have hpA := Pre.mk (heap_lt h.2.1)
  simp at c0 c1
  obtain ⟨z, x⟩ := s
  simp only at hs c1
  by_cases he : x = 0
  · subst he
    have hn : Gr.numS a b (z, 0) = ((within z a b).1, ((within z a b).2.2, (within z a b).2.1)) := by unfold Gr.numS; rw [if_neg (by simp)]; rfl
    rw [hn]
    have hw := octWithin_any w0 B z a b W h.2.2 hg hs
    generalize within z a b = r at *
    obtain ⟨y, er, z'⟩ := r
    simp only at hw ⊢
    have HW := Lib.hid hw
    clear h hg hw hn
    go_enter Tryz.func46, Tryz.ntmps46
    go_wp2_with (go_at_call 88; refine HW.out.mono ?_; rintro e w1 ⟨rfl, hr1, hg1, hk1⟩; obtain ⟨hA1, hR1⟩ := RdAt.put (e := er) H.out hr1 hk1; (have d1 := cell_of (o := 1) hA1); (have g1 := frozen_of (o := 1) hA1); (have pA1 := Pre.mk (heap_lt hA1)); simp at d1; (have HR1 := Lib.hid hR1); (have HG1 := Lib.hid hg1); (have HK1 := Lib.hid hk1); clear hr1 hg1 hk1 hA1 hR1)
    go_ret
    exact ⟨rfl, HR1.out, HG1.out.set H.out.1 _, (Keep2.ofKeep HK1.out).trans Keep2.set⟩
  · rw [Gr.numS_err a b (s := (z, x)) he]
    have he2 : (x != 0) = true := by rw [bne_iff_ne]; exact he
    clear h hg he
    go_enter Tryz.func46, Tryz.ntmps46
    go_wp2
    go_ret
    exact ⟨rfl, H.out, HG.out, Keep2.refl _ _ _⟩
/-- a list's numbers, one behind the other -/
theorem listS_succ (a b : Int) : ∀ (k : Nat) (s : Gr.Rs), Gr.listS a b (k + 1) s = ((Gr.listS a b k s).1 ++ [(Gr.numS a b (Gr.listS a b k s).2).1], (Gr.numS a b (Gr.listS a b k s).2).2)
  | 0, s => rfl
  | k + 1, s => by
    have ih := listS_succ a b k (Gr.numS a b s).2
    rw [Gr.listS, ih]
    rfl
theorem listS_len (a b : Int) : ∀ (k : Nat) (s : Gr.Rs), (Gr.listS a b k s).1.length = k ∧ (Gr.listS a b k s).2.1.length ≤ s.1.length
  | 0, s => ⟨rfl, Nat.le_refl _⟩
  | k + 1, s => by
    obtain ⟨h1, h2⟩ := listS_len a b k (Gr.numS a b s).2
    have h3 := numS_len a b s
    refine ⟨?_, ?_⟩
    · rw [Gr.listS, List.length_cons, h1]
    · rw [Gr.listS]
      exact Nat.le_trans h2 h3
theorem OwnAt.keep2 {α : Type} {base base0 A B : Nat} {e : TypeId} {k : Nat} {enc : α → List Value} {w w' : World} {v : Value} {l : List α} {s : Gr.Rs} (h : OwnAt base e k enc w v l) (hk : Keep2 A B w w') (hr : RdAt base0 A B w s) (h1 : e ≠ 82 := by decide) (h2 : e ≠ 135 := by decide) : OwnAt base e k enc w' v l :=
  OwnAt.same h fun b hb => by
    obtain ⟨_, cs, hc⟩ := OwnAt.block h hb
    refine hk.2 b (heap_lt hc) (fun q => ?_) fun q => ?_
    · subst q
      have := hr.2.1
      rw [hc] at this
      cases this
      exact h1 rfl
    · subst q
      have := hr.2.2.2
      rw [hc] at this
      cases this
      exact h2 rfl
theorem RdAt.app {α : Type} {base base0 A B : Nat} {e : TypeId} {k : Nat} {enc : α → List Value} {w0 W W' : World} {v v' : Value} {l l2 : List α} {s : Gr.Rs} (h : RdAt base A B W s) (ho : OwnAt base0 e k enc W v l) (hA : Appended w0 e k enc W v l2 v' W') (h1 : 82 ≠ e := by decide) (h2 : 135 ≠ e := by decide) : RdAt base A B W' s :=
  ⟨h.1, by rw [hA.2.2.2.1 A (heap_lt h.2.1) (OwnAt.other ho h.2.1 h1)]; exact h.2.1, h.2.2.1, by rw [hA.2.2.2.1 B (heap_lt h.2.2.2) (OwnAt.other ho h.2.2.2 h2)]; exact h.2.2.2⟩
theorem Keep2.app {α : Type} {e : TypeId} {k : Nat} {enc : α → List Value} {A B : Nat} {w0 w W W' : World} {v v' : Value} {l : List α} (hk : Keep2 A B w W) (hA : Appended w0 e k enc W v l v' W') (hi : ∀ q, v.ownBlock = some q → w.heap.size ≤ q) : Keep2 A B w W' ∧ ∀ q, v'.ownBlock = some q → w.heap.size ≤ q :=
  ⟨⟨Nat.le_trans hk.1 hA.2.2.1, fun q hq h1 h2 => (hA.2.2.2.1 q (Nat.lt_of_lt_of_le hq hk.1) fun h => by have := hi q h; omega).trans (hk.2 q hq h1 h2)⟩, fun q hq => by
    rcases hA.2.2.2.2 q hq with h | h
    · exact hi q h
    · exact Nat.le_trans hk.1 h⟩
/-- a list comes back in memory of the call's own -/
def RdList (w0 W : World) (A B : Nat) (l : List Int) (s : Gr.Rs) (e : Ending) (W' : World) : Prop := ∃ v, e = .returned v ∧ OwnAt W.heap.size 3 1 encN W' v l ∧ RdAt w0.heap.size A B W' s ∧ Grew w0 W' ∧ Keep2 A B W W'
set_option maxHeartbeats 4000000 in
theorem rdList_any (w0 : World) (A B : Nat) (s : Gr.Rs) (m a b : Int) (W : World) (h : RdAt w0.heap.size A B W s) (hg : Grew w0 W) (hs : s.1.length ≤ 1000000) (hm : 0 ≤ m) (hm2 : m ≤ 1000) :
    Calls Tryz.prog 64 #[.pointer (some ⟨A, 0, none⟩), .int .i64 m, .int .i64 a, .int .i64 b] W (RdList w0 W A B (Gr.listS a b (Gr.numS 0 m s).1.toNat (Gr.numS 0 m s).2).1 (Gr.listS a b (Gr.numS 0 m s).1.toNat (Gr.numS 0 m s).2).2) := by
  have hn := rdNum_any w0 A B s 0 m W h hg hs
  have hr := numS_range (a := 0) (b := m) s (by omega) hm
  have hl := numS_len 0 m s
  generalize Gr.numS 0 m s = r at *
  obtain ⟨n, s1⟩ := r
  simp only at hn hr hl ⊢
  obtain ⟨N, rfl⟩ : ∃ N : Nat, n = N := ⟨n.toNat, by omega⟩
  rw [Int.toNat_natCast]
  have HN := Lib.hid hn
  have hBlt := heap_lt h.2.2.2
  clear h hg hn
  go_enter Tryz.func64, Tryz.ntmps64
  go_wp2_with (go_at_call 46; refine HN.out.mono ?_; rintro e w1 ⟨rfl, hr1, hg1, hk1⟩; (have HR1 := Lib.hid hr1); (have HG1 := Lib.hid hg1); (have HK1 := Lib.hid hk1); clear hr1 hg1 hk1)
  go_loopg [9, 13] N (fun gg s9 s13 wr => ∃ (k : Nat) (vk : Value), k ≤ N ∧ N - k ≤ gg ∧ s13 = .int .i64 k ∧ vk = s9 ∧ Hid (OwnAt w0.heap.size 3 1 encN wr vk (Gr.listS a b k s1).1) ∧ Hid (RdAt w0.heap.size A B wr (Gr.listS a b k s1).2) ∧ Hid (Grew w0 wr) ∧ Hid (Keep2 A B W wr) ∧ Hid (∀ q, vk.ownBlock = some q → W.heap.size ≤ q))
  case atStart => exact ⟨0, _, Nat.zero_le _, by omega, rfl, rfl, Lib.hid (OwnAt.nil _), HR1, HG1, HK1, Lib.hid fun q h => by cases h⟩
  case round =>
    obtain ⟨k, vk, hk, hgg, rfl, rfl, HO, HR, HG, HK, HI⟩ := hrel
    obtain ⟨hl1, hl2⟩ := listS_len a b k s1
    by_cases hlt : k < N
    · have hsc := listS_succ a b k s1
      have hnum := rdNum_any w0 A B (Gr.listS a b k s1).2 a b wr HR.out HG.out (by omega)
      have HSC := Lib.hid hsc
      have HNUM := Lib.hid hnum
      obtain ⟨ak, ck, rfl⟩ := (HO.out.rows encN_len).len
      have HL1 := Lib.hid hl1
      clear hsc hnum hl1 hl2
      generalize Gr.numS a b (Gr.listS a b k s1).2 = y at *
      obtain ⟨y1, y2⟩ := y
      simp only at HNUM HSC
      generalize hLS : Gr.listS a b k s1 = LS at *
      have HLS := Lib.hid hLS
      clear hLS
      go_wp2_with (first
        | (go_at_call 46; refine HNUM.out.mono ?_; rintro e w2 ⟨rfl, hr2, hg2, hk2⟩; (have HR2 := Lib.hid hr2); (have HG2 := Lib.hid hg2); (have HK2 := Lib.hid hk2); (have HO2 := Lib.hid (OwnAt.keep2 HO.out hk2 HR.out)); clear hr2 hg2 hk2)
        | (at_builtin; go_loud (refine wpList_ownK (w0 := w0) rfl (.tmp 15) (.tmp 20) 41 _ _ _ _ [y1] rfl Tryz.underlying41 infoInt1 rfl (by decide) encN_len encN_one rfl (OwnAt.grew HO2.out (by repeat (first | with_reducible exact Grew.refl _ | apply Grew.more | apply Grew.alloc | apply Grew.drew | apply Grew.drewN))) (HG2.out.trans (by repeat (first | with_reducible exact Grew.refl _ | apply Grew.more | apply Grew.alloc | apply Grew.drew | apply Grew.drewN))) rfl (int_at _ _ _ _ rfl (by simp [go_sem])) (by rw [HL1.out]; simp; omega) (by decide) (by simp) ?_; intro v5 W5 hA; (have HA := Lib.hid hA); clear hA)))
      obtain ⟨q4, q5⟩ := Keep2.app (HK.out.trans (HK2.out.trans (Keep2.ofGrew (by repeat (first | with_reducible exact Grew.refl _ | apply Grew.more | apply Grew.alloc | apply Grew.drew | apply Grew.drewN))))) HA.out HI.out
      have q2 := RdAt.app (HR2.out.grew (by repeat (first | with_reducible exact Grew.refl _ | apply Grew.more | apply Grew.alloc | apply Grew.drew | apply Grew.drewN))) (OwnAt.grew HO2.out (by repeat (first | with_reducible exact Grew.refl _ | apply Grew.more | apply Grew.alloc | apply Grew.drew | apply Grew.drewN))) HA.out
      have Q2 := Lib.hid q2
      have Q4 := Lib.hid q4
      have Q5 := Lib.hid q5
      clear q2 q4 q5
      go_roundg (N - (k + 1))
      case measure => omega
      case rel => exact ⟨k + 1, _, by omega, by omega, by go_num, rfl, Lib.hid (by rw [HSC.out]; exact HA.out.2.1), Lib.hid (by rw [HSC.out]; exact Q2.out), Lib.hid HA.out.1, Q4, Q5⟩
    · obtain rfl : k = N := by omega
      obtain ⟨ak, ck, rfl⟩ := (HO.out.rows encN_len).len
      go_wp2
      go_ret
      exact ⟨_, rfl, OwnAt.up HO.out HI.out, HR.out, HG.out, HK.out⟩
end Go.Proofs.YtangapokicnfgaaGreat

/-! pack's reader: prog, end. -/
namespace Go.Proofs.YtangapokicnfgaaGreat
set_option linter.unusedSimpArgs false
set_option linter.unusedVariables false
open Go.RowKit Ga
set_option maxRecDepth 100000

theorem RdAt.setOther {base A B C : Nat} {W : World} {s : Gr.Rs} {o : Nat} {v : Value} (h : RdAt base A B W s) (hA : C ≠ A) (hB : C ≠ B) : RdAt base A B (W.setCell ⟨C, o, none⟩ v) s :=
  ⟨h.1, by rw [set_other hA]; exact h.2.1, h.2.2.1, by rw [set_other hB]; exact h.2.2.2⟩
theorem OwnAt.setOther {α : Type} {base C : Nat} {e t : TypeId} {k : Nat} {enc : α → List Value} {W : World} {v x : Value} {l : List α} {o : Nat} {c : Array Value} {f : Nat × Nat} (h : OwnAt base e k enc W v l) (hC : W.heap[C]? = some (.cells c t f)) (ht : t ≠ e) : OwnAt base e k enc (W.setCell ⟨C, o, none⟩ x) v l :=
  OwnAt.same h fun b hb => set_other fun q => by
    subst q
    exact own_ne h hC ht hb
def RdProg (w0 W : World) (A B : Nat) (l : List Vm.Ins) (s : Gr.Rs) (e : Ending) (W' : World) : Prop := ∃ v, e = .returned v ∧ OwnAt W.heap.size 123 2 encI W' v l ∧ RdAt w0.heap.size A B W' s ∧ Grew w0 W' ∧ Keep2 A B W W'
set_option maxHeartbeats 4000000 in
theorem rdProg_any (w0 : World) (A B : Nat) (s : Gr.Rs) (W : World) (h : RdAt w0.heap.size A B W s) (hg : Grew w0 W) (hs : s.1.length ≤ 1000000) :
    Calls Tryz.prog 89 #[.pointer (some ⟨A, 0, none⟩)] W (RdProg w0 W A B (Gr.progS getL s).1 (Gr.progS getL s).2) := by
  have H := Lib.hid h
  have HG := Lib.hid hg
  have c0 := cell_of (o := 0) h.2.1
  have c1 := cell_of (o := 1) h.2.1
  have hpA := Pre.mk (heap_lt h.2.1)
  simp at c0 c1
  obtain ⟨z, x⟩ := s
  simp only at hs c1
  by_cases he : x = 0
  · subst he
    have hn : Gr.progS getL (z, 0) = ((getL z).1, ((getL z).2.2, (getL z).2.1)) := by unfold Gr.progS; rw [if_neg (by simp)]
    rw [hn]
    have hw := codeGet_keep w0 B z W h.2.2 hg hs
    generalize getL z = r at *
    obtain ⟨y, er, z'⟩ := r
    simp only at hw ⊢
    have HW := Lib.hid hw
    clear h hg hw hn
    go_enter Tryz.func89, Tryz.ntmps89
    go_wp2_with (go_at_call 118; refine HW.out.mono ?_; rintro e w1 ⟨v1, rfl, ho1, hr1, hg1, hk1⟩; simp only at ho1 hr1; obtain ⟨a1, cc1, rfl⟩ := (ho1.rows encI_len).len; obtain ⟨hA1, hR1⟩ := RdAt.put (e := er) H.out hr1 hk1; (have d1 := cell_of (o := 1) hA1); (have g1 := frozen_of (o := 1) hA1); (have pA1 := Pre.mk (heap_lt hA1)); simp at d1; (have HO1 := Lib.hid (OwnAt.setOther (o := 1) (x := .int .i64 er) ho1 hA1 (by decide))); (have HR1 := Lib.hid hR1); (have HG1 := Lib.hid hg1); (have HK1 := Lib.hid hk1); clear ho1 hr1 hg1 hk1 hA1 hR1)
    go_ret
    exact ⟨_, rfl, HO1.out, HR1.out, HG1.out.set H.out.1 _, (Keep2.ofKeep HK1.out).trans Keep2.set⟩
  · have hn : Gr.progS getL (z, x) = ([], (z, x)) := by unfold Gr.progS; rw [if_pos he]
    rw [hn]
    have he2 : (x != 0) = true := by rw [bne_iff_ne]; exact he
    clear h hg he hn
    go_enter Tryz.func89, Tryz.ntmps89
    go_wp2
    go_ret
    exact ⟨_, rfl, OwnAt.nil _, H.out, HG.out, Keep2.refl _ _ _⟩
/-- the error of all that was read -/
def endE (s : Gr.Rs) (fine : Bool) : Int := if s.2 ≠ 0 then s.2 else if decide (0 < s.1.length) || !fine then 4 else 0
set_option maxHeartbeats 4000000 in
theorem rdEnd_any (base A B : Nat) (s : Gr.Rs) (fine : Bool) (W : World) (h : RdAt base A B W s) :
    Calls Tryz.prog 39 #[.pointer (some ⟨A, 0, none⟩), .bool fine] W fun e w' => e = .returned (.int .i64 (endE s fine)) ∧ w' = W := by
  have c0 := cell_of (o := 0) h.2.1
  have c1 := cell_of (o := 1) h.2.1
  have hpA := Pre.mk (heap_lt h.2.1)
  simp at c0 c1
  obtain ⟨z, x⟩ := s
  simp only at c1
  have hL := octLeft_any base B z W h.2.2
  have HL := Lib.hid hL
  clear h hL
  by_cases he : x = 0
  · subst he
    by_cases hz : 0 < z.length
    · have hn : endE (z, 0) fine = 4 := by unfold endE; rw [if_neg (by simp)]; simp [hz]
      rw [hn]
      have hz' : (0 : Int) < (z.length : Int) := by omega
      clear hn
      go_enter Tryz.func39, Tryz.ntmps39
      go_wp2_with (go_at_call 81; refine HL.out.mono ?_; rintro e w1 ⟨rfl, rfl⟩)
      go_ret
      exact ⟨rfl, rfl⟩
    · have hz' : ¬ (0 : Int) < (z.length : Int) := by omega
      cases fine with
      | true =>
        have hn : endE (z, 0) true = 0 := by unfold endE; rw [if_neg (by simp)]; simp [hz]
        rw [hn]
        clear hn
        go_enter Tryz.func39, Tryz.ntmps39
        go_wp2_with (go_at_call 81; refine HL.out.mono ?_; rintro e w1 ⟨rfl, rfl⟩)
        go_ret
        exact ⟨rfl, rfl⟩
      | false =>
        have hn : endE (z, 0) false = 4 := by unfold endE; rw [if_neg (by simp)]; simp
        rw [hn]
        clear hn
        go_enter Tryz.func39, Tryz.ntmps39
        go_wp2_with (go_at_call 81; refine HL.out.mono ?_; rintro e w1 ⟨rfl, rfl⟩)
        go_ret
        exact ⟨rfl, rfl⟩
  · have he2 : (x != 0) = true := by rw [bne_iff_ne]; exact he
    have hn : endE (z, x) fine = x := by unfold endE; rw [if_pos he]
    rw [hn]
    clear hn he
    go_enter Tryz.func39, Tryz.ntmps39
    go_wp2
    go_ret
    exact ⟨rfl, rfl⟩
end Go.Proofs.YtangapokicnfgaaGreat

/-! A program's bytes: what is put is got, what is got was put. -/
namespace Go.Proofs.YtangapokicnfgaaGreat
set_option linter.unusedSimpArgs false
set_option linter.unusedVariables false
open Go.RowKit Ga
set_option maxRecDepth 100000

theorem cd_be {n a b : Int} (t : List UInt8) (hf : Oc.fitsN n = true) (h1 : a ≤ n) (h2 : n ≤ b) : within (Oc.be n ++ t) a b = (n, 0, t) := Gr.wn_put h1 h2 hf t
theorem cd_numR {n : Int} (t : List UInt8) (hf : Oc.fitsN n = true) : numR (Oc.be n ++ t) = (n, 0, t) := by
  have h := hf
  unfold Oc.fitsN at h
  simp only [Bool.and_eq_true, decide_eq_true_eq] at h
  exact cd_be t hf h.1 h.2
theorem cd_nums (x y : Int) (l : List Val) (s : List UInt8) : Oc.bes (nums ((x, y) :: l)) ++ s = Oc.be x ++ (Oc.be y ++ (Oc.bes (nums l) ++ s)) := by
  have : nums ((x, y) :: l) = [x] ++ ([y] ++ nums l) := rfl
  rw [this, Oc.bes_append, Oc.bes_append]
  have e1 : ∀ z, Oc.bes [z] = Oc.be z := fun z => by unfold Oc.bes; simp
  rw [e1, e1]
  simp only [List.append_assoc]
theorem cd_readL_put : ∀ (l : List Val) (s : List UInt8) (acc : List Val), (∀ i ∈ l, Co.rightI i = true) → readL l.length (Oc.bes (nums l) ++ s) acc = (acc ++ l, 0, s)
  | [], s, acc, _ => by show readL 0 s acc = _; rw [readL, List.append_nil]
  | (x, y) :: l, s, acc, h => by
    have hr := h (x, y) List.mem_cons_self
    obtain ⟨fx, fy⟩ := right_fitsN hr
    obtain ⟨x0, x1, _, _⟩ := Co.right_parts hr
    simp only at x0 x1
    rw [cd_nums, List.length_cons, readL_ok (cd_be _ fx x0 (by omega)) (cd_numR _ fy), cd_readL_put l s _ fun i hi => h i (List.mem_cons_of_mem _ hi)]
    simp
theorem cd_put {l : List Val} (h : Co.fitsI l = true) (s : List UInt8) : getL (putI l ++ s) = (l, 0, s) := by
  obtain ⟨h24, hr⟩ := Co.fits_parts h
  have hf : Oc.fitsN (l.length : Int) = true := by unfold Oc.fitsN; simp; omega
  have e : putI l ++ s = Oc.be l.length ++ (Oc.bes (nums l) ++ s) := by unfold putI; simp only [List.append_assoc]
  have hw : within (putI l ++ s) 0 24 = ((l.length : Int), 0, Oc.bes (nums l) ++ s) := by rw [e]; exact cd_be _ hf (by omega) (by omega)
  rw [getL_fit hw (cd_readL_put l s [] hr), List.nil_append, h, if_pos rfl]
theorem cd_readL_len : ∀ (n : Nat) (s : List UInt8) (acc : List Val), (readL n s acc).2.2.length ≤ s.length
  | 0, s, acc => Nat.le_refl _
  | n + 1, s, acc => by
    have h1 := within_len s 0 17
    have h2 : (numR (within s 0 17).2.2).2.2.length ≤ (within s 0 17).2.2.length := within_len _ _ _
    rw [readL]
    split
    · exact h1
    · split
      · exact Nat.le_trans h2 h1
      · exact Nat.le_trans (cd_readL_len n _ _) (Nat.le_trans h2 h1)
theorem cd_len (s : List UInt8) : (getL s).2.2.length ≤ s.length := by
  have h1 := within_len s 0 24
  have h2 := cd_readL_len (within s 0 24).1.toNat (within s 0 24).2.2 []
  unfold getL
  split
  · exact h1
  · split
    · exact Nat.le_trans h2 h1
    · split
      · exact Nat.le_trans h2 h1
      · exact Nat.le_trans h2 h1
theorem cd_readL_can : ∀ (n : Nat) (s : List UInt8) (acc r : List Val) (t : List UInt8), readL n s acc = (r, 0, t) → ∃ l, r = acc ++ l ∧ l.length = n ∧ s = Oc.bes (nums l) ++ t
  | 0, s, acc, r, t, h => by
    rw [readL] at h
    cases h
    exact ⟨[], by simp, rfl, rfl⟩
  | n + 1, s, acc, r, t, h => by
    rw [readL] at h
    obtain ⟨x, e1, s1, hx⟩ : ∃ x e1 s1, within s 0 17 = (x, e1, s1) := ⟨_, _, _, rfl⟩
    rw [hx] at h
    simp only at h
    by_cases h1 : e1 = 0
    · subst h1
      rw [if_neg (by simp)] at h
      obtain ⟨y, e2, s2, hy⟩ : ∃ y e2 s2, numR s1 = (y, e2, s2) := ⟨_, _, _, rfl⟩
      rw [hy] at h
      simp only at h
      by_cases h2 : e2 = 0
      · subst h2
        rw [if_neg (by simp)] at h
        obtain ⟨l, h3, h4, h5⟩ := cd_readL_can n s2 _ r t h
        obtain ⟨q1, -, -⟩ := Gr.wn_can (a := 0) (b := 17) hx
        obtain ⟨q2, -, -⟩ := Gr.wn_can (a := -2147483648) (b := 2147483647) hy
        refine ⟨(x, y) :: l, by rw [h3]; simp, by rw [List.length_cons, h4], ?_⟩
        rw [cd_nums, q1, q2, h5]
      · rw [if_pos h2] at h
        cases h
        exact absurd rfl h2
    · rw [if_pos h1] at h
      cases h
      exact absurd rfl h1
theorem cd_can {s : List UInt8} {l : List Val} {t : List UInt8} (h : getL s = (l, 0, t)) : s = putI l ++ t ∧ Co.fitsI l = true := by
  unfold getL at h
  obtain ⟨n, e1, s1, hx⟩ : ∃ n e1 s1, within s 0 24 = (n, e1, s1) := ⟨_, _, _, rfl⟩
  rw [hx] at h
  simp only at h
  by_cases h1 : e1 = 0
  · subst h1
    rw [if_neg (by simp)] at h
    obtain ⟨r, e2, t2, hr⟩ : ∃ r e2 t2, readL n.toNat s1 [] = (r, e2, t2) := ⟨_, _, _, rfl⟩
    rw [hr] at h
    simp only at h
    by_cases h2 : e2 = 0
    · subst h2
      rw [if_neg (by simp)] at h
      by_cases h3 : Co.fitsI r = true
      · rw [if_pos h3] at h
        cases h
        obtain ⟨l2, h4, h5, h6⟩ := cd_readL_can _ _ _ _ _ hr
        rw [List.nil_append] at h4
        subst h4
        obtain ⟨q1, q2, q3⟩ := Gr.wn_can (a := 0) (b := 24) hx
        refine ⟨?_, h3⟩
        unfold putI
        rw [q1, h6, show (l.length : Int) = n by omega, List.append_assoc]
      · rw [if_neg h3] at h
        cases h
    · rw [if_pos h2] at h
      cases h
      exact absurd rfl h2
  · rw [if_pos h1] at h
    cases h
    exact absurd rfl h1
theorem codecI : Gr.Codec getL putI (fun p => Co.fitsI p = true) := ⟨fun l t h => cd_put h t, fun s l t h => cd_can h⟩
theorem progS_len (s : Gr.Rs) : (Gr.progS getL s).2.1.length ≤ s.1.length := by
  unfold Gr.progS
  split
  · exact Nat.le_refl _
  · exact cd_len _
end Go.Proofs.YtangapokicnfgaaGreat
