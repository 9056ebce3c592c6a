import Derived.Test.YtmdmbimfdpngaaaGreatDoorMc12
/-! cell.New: a table made of entries. -/
namespace Go.Proofs.YtmdmbimfdpngaaaGreatDoor
set_option linter.unusedSimpArgs false
set_option linter.unusedVariables false
open Go.RowKit Ga
set_option maxRecDepth 100000

/-- an entry as it lies -/
def encEn (x : Tab.En) : List Value := [.int .i64 x.node, .int .i64 x.key, .int .i64 x.c0.1, .int .i64 x.c0.2, .int .i64 x.c1.1, .int .i64 x.c1.2]
theorem encEn_len (x : Tab.En) : (encEn x).length = 6 := rfl
theorem encEn_one (x : Tab.En) : ∀ u ∈ encEn x, u.oneCell' = true := by
  intro u hu
  simp [encEn] at hu
  rcases hu with rfl | rfl | rfl | rfl | rfl | rfl <;> rfl
abbrev EntsAt (w : World) (v : Value) (l : List Tab.En) : Prop := RowsAt 6 encEn w v l
theorem EntsAt.open6 {w : World} {v : Value} {l : List Tab.En} (h : EntsAt w v l) : ∃ a cap, v = .slice a l.length cap ∧ l.length ≤ 9223372036854775807 ∧ ∀ i (hi : i < l.length), ∃ b off, a = some ⟨b, off, none⟩ ∧ Pre b w ∧
    w.cell? ⟨b, off + i * 6, none⟩ = some (.int .i64 l[i].node) ∧ w.cell? ⟨b, off + i * 6 + 1, none⟩ = some (.int .i64 l[i].key) ∧ w.cell? ⟨b, off + i * 6 + 2, none⟩ = some (.int .i64 l[i].c0.1) ∧ w.cell? ⟨b, off + i * 6 + 3, none⟩ = some (.int .i64 l[i].c0.2) ∧ w.cell? ⟨b, off + i * 6 + 4, none⟩ = some (.int .i64 l[i].c1.1) ∧ w.cell? ⟨b, off + i * 6 + 5, none⟩ = some (.int .i64 l[i].c1.2) := by
  obtain ⟨a, cap, rfl, hm, hx⟩ := h
  refine ⟨a, cap, rfl, by unfold maxLen at hm; omega, fun i hi => ?_⟩
  obtain ⟨b, off, rfl, hc⟩ := hx (by intro e; subst e; simp at hi)
  have hj := fun j u => hc i l[i] (List.getElem?_eq_getElem hi) j u
  have h0 := hj 0 _ rfl
  exact ⟨b, off, rfl, Pre.mk (World.block_lt_of_cell? w _ h0), h0, hj 1 _ rfl, hj 2 _ rfl, hj 3 _ rfl, hj 4 _ rfl, hj 5 _ rfl⟩
theorem tabSet_c (w0 W : World) (t b n : Nat) (m : List Tab.En) (nd ky p0 q0 p1 q1 : Int) (hT : TableAt W t b n m) (hg : Grew w0 W) (hb : w0.heap.size ≤ b) (hn : n < maxLen) :
    Calls Tryz.prog 26 #[.pointer (some ⟨t, 0, none⟩), .int .i64 nd, .int .i64 ky, .agg #[.int .i64 p0, .int .i64 q0, .int .i64 p1, .int .i64 q1]] W (SetPost w0 W t b n (setR m ⟨nd, ky, (p0, q0), (p1, q1)⟩)) := tabSet_any w0 W t b n m ⟨nd, ky, (p0, q0), (p1, q1)⟩ hT hg hb hn
def newOk (l : List Tab.En) : Bool := l.all okEn
theorem newOk_false {l : List Tab.En} {k : Nat} (hk : k < l.length) (h : okEn l[k] = false) : newOk l = false := by
  unfold newOk
  rw [List.all_eq_false]
  exact ⟨_, List.getElem_mem hk, by rw [h]; simp⟩
theorem newT_succ {l : List Tab.En} {k : Nat} (hk : k < l.length) : Tab.newT (l.take (k + 1)) = Tab.setT (Tab.newT (l.take k)) l[k] := by
  rw [List.take_succ_eq_append_getElem hk, Tab.newT_snoc]
/-- a table, or none -/
def NewPost (l : List Tab.En) (w : World) (e : Ending) (w' : World) : Prop :=
  (newOk l = true ∧ ∃ t b, e = .returned (.tuple #[.pointer (some ⟨t, 0, none⟩), .int .i64 0]) ∧ TableAt w' t b l.length (Tab.newT l) ∧ w.heap.size ≤ t ∧ w.heap.size ≤ b ∧ Grew w w') ∨
  (newOk l = false ∧ e = .returned (.tuple #[.pointer none, .int .i64 1]) ∧ Grew w w')
set_option maxHeartbeats 8000000 in
theorem tabNew_any (v : Value) (l : List Tab.En) (w : World) (hv : EntsAt w v l) (hl : l.length ≤ 100000) : Calls Tryz.prog 18 #[v] w (NewPost l w) := by
  have HV := Lib.hid hv
  obtain ⟨a, cap, rfl, hm, -⟩ := EntsAt.open6 hv
  have hmm := @run_makeMap Tryz.prog
  clear hv
  go_enter Tryz.func18, Tryz.ntmps18
  go_wp2
  have HT0 : Hid (TableAt ((w.alloc (.map #[] 0)).alloc (.cells #[.map (some w.heap.size)] 106)) (w.heap.size + 1) w.heap.size 0 []) := Lib.hid ⟨heap_new_at _ _ _ (by simp [World.size_alloc]), (TabAt.made w).grew (by repeat (first | with_reducible exact Grew.refl _ | apply Grew.more | apply Grew.alloc | apply Grew.drew | apply Grew.drewN))⟩
  clear hmm
  go_loopg [13] l.length (fun gg s13 wr => ∃ k : Nat, k ≤ l.length ∧ l.length - k ≤ gg ∧ s13 = .int .i64 k ∧ Hid (TableAt wr (w.heap.size + 1) w.heap.size k (Tab.newT (l.take k))) ∧ Hid (Grew w wr) ∧ Hid (∀ i (h : i < l.length), i < k → okEn l[i] = true))
  case atStart => exact ⟨0, by omega, by omega, rfl, HT0, Lib.hid (by repeat (first | with_reducible exact Grew.refl _ | apply Grew.more | apply Grew.alloc | apply Grew.drew | apply Grew.drewN)), Lib.hid fun i _ h => by omega⟩
  case round =>
    obtain ⟨k, hk, hgg, rfl, HT, HG, HOK⟩ := hrel
    by_cases hlt : k < l.length
    · obtain ⟨a', cap', e, -, hx⟩ := EntsAt.open6 (HV.out.grew HG.out)
      cases e
      obtain ⟨b, off, rfl, hb, c0, c1, c2, c3, c4, c5⟩ := hx k hlt
      have HNS := Lib.hid (newT_succ hlt)
      have HNF := Lib.hid fun h => newOk_false hlt h
      have HKX : Hid (okEn l[k] = true → ∀ i (hi : i < l.length), i < k + 1 → okEn l[i] = true) := Lib.hid fun h i hi h2 => (Nat.lt_or_ge i k).elim (HOK.out i hi) fun h3 => by
        obtain rfl : i = k := by omega
        exact h
      clear hx
      generalize l[k] = x at *
      obtain ⟨nd, ky, ⟨p0, q0⟩, ⟨p1, q1⟩⟩ := x
      simp only at c0 c1 c2 c3 c4 c5
      have HS := Lib.hid fun W (g : Grew wr W) => tabSet_c w W (w.heap.size + 1) w.heap.size k _ nd ky p0 q0 p1 q1 (HT.out.grew g) (HG.out.trans g) (Nat.le_refl _) (by unfold maxLen; omega)
      cases hok : okEn ⟨nd, ky, (p0, q0), (p1, q1)⟩
      · have hr : setR (Tab.newT (l.take k)) ⟨nd, ky, (p0, q0), (p1, q1)⟩ = (1, Tab.newT (l.take k)) := by unfold setR; rw [hok]; rfl
        rw [hr] at HS
        have HNF2 := Lib.hid (HNF.out hok)
        clear hok hr
        go_wp2_with (go_at_call 26; refine (HS.out _ (by repeat (first | with_reducible exact Grew.refl _ | apply Grew.more | apply Grew.alloc | apply Grew.drew | apply Grew.drewN))).mono ?_; rintro e w1 ⟨rfl, h1, hg1, hk1⟩; (have HG1 := Lib.hid hg1); clear h1 hg1 hk1; simp only)
        go_ret2
        exact .inr ⟨HNF2.out, rfl, HG1.out⟩
      · have hr : setR (Tab.newT (l.take k)) ⟨nd, ky, (p0, q0), (p1, q1)⟩ = (0, Tab.setT (Tab.newT (l.take k)) ⟨nd, ky, (p0, q0), (p1, q1)⟩) := by unfold setR; rw [hok]; rfl
        rw [hr] at HS
        have HKX2 := Lib.hid (HKX.out hok)
        clear hok hr
        go_wp2_with (go_at_call 26; refine (HS.out _ (by repeat (first | with_reducible exact Grew.refl _ | apply Grew.more | apply Grew.alloc | apply Grew.drew | apply Grew.drewN))).mono ?_; rintro e w1 ⟨rfl, h1, hg1, hk1⟩; (have HG1 := Lib.hid hg1); (have HT1 := Lib.hid h1); clear h1 hg1 hk1; simp only)
        go_roundg (l.length - (k + 1))
        case measure => omega
        case rel => exact ⟨k + 1, by omega, by omega, by go_num, Lib.hid (by rw [HNS.out]; exact HT1.out), HG1, HKX2⟩
    · obtain rfl : k = l.length := by omega
      have hT := HT.out
      rw [List.take_length] at hT
      have HT9 := Lib.hid hT
      clear hT
      go_wp2
      go_ret2
      refine .inl ⟨?_, _, _, rfl, HT9.out, by omega, Nat.le_refl _, HG.out⟩
      unfold newOk
      rw [List.all_eq_true]
      intro x hx
      obtain ⟨i, hi, rfl⟩ := List.mem_iff_getElem.1 hx
      exact HOK.out i hi hi
end Go.Proofs.YtmdmbimfdpngaaaGreatDoor
