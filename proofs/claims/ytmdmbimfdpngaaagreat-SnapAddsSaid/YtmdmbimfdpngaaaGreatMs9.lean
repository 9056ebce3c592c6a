import Derived.Test.YtmdmbimfdpngaaaGreatMs8
import Derived.Test.YtmdmbimfdpngaaaGreatMs7
import Derived.Test.YtmdmbimfdpngaaaGreatMs6
import Derived.Deep.LoopGhost
import Derived.Test.YtmdmbimfdpngaaaGreatMs2
/-! forebayref08: Find, Has. -/
namespace Go.Proofs.YtmdmbimfdpngaaaGreat
set_option linter.unusedSimpArgs false
set_option linter.unusedVariables false
open Go.RowKit Ga
set_option maxRecDepth 100000

def findI (l : List Gr.Nd) (id : Int) : Int := match Gr.find l id with
  | some i => i
  | none => -1
theorem findI_at {l : List Gr.Nd} {id : Int} {k : Nat} (hk : k < l.length) (h : l[k].id = id) (hn : ∀ j (hj : j < l.length), j < k → l[j].id ≠ id) : findI l id = k := by
  unfold findI Gr.find
  rw [List.findIdx?_eq_some_iff_getElem.2 ⟨hk, by simpa using h, fun j hj => by simpa using hn j (by omega) hj⟩]
theorem findI_no {l : List Gr.Nd} {id : Int} (hn : ∀ j (hj : j < l.length), l[j].id ≠ id) : findI l id = -1 := by
  unfold findI Gr.find
  rw [List.findIdx?_eq_none_iff.2 fun n hm => by
    obtain ⟨j, hj, rfl⟩ := List.mem_iff_getElem.1 hm
    simpa using hn j hj]

theorem ints_open {w : World} {v : Value} {l : List Int} (h : IntsAt w v l) : ∃ a cap, v = .slice a l.length cap ∧ l.length ≤ 9223372036854775807 ∧ ∀ i (hi : i < l.length), ∃ b off, a = some ⟨b, off, none⟩ ∧ Pre b w ∧ w.cell? ⟨b, off + i, none⟩ = some (.int .i64 l[i]) := by
  obtain ⟨a, cap, rfl, hm, hl⟩ := h
  refine ⟨a, cap, rfl, by unfold maxLen at hm; omega, fun i hi => ?_⟩
  obtain ⟨b, off, rfl, hx⟩ := hl (by intro e; subst e; simp at hi)
  have h0 := hx i l[i] (List.getElem?_eq_getElem hi) 0 _ rfl
  rw [Nat.mul_one, Nat.add_zero] at h0
  exact ⟨b, off, rfl, Pre.mk (World.block_lt_of_cell? w _ h0), h0⟩

set_option maxHeartbeats 2000000 in
theorem refFind08_any (v : Value) (l : List Gr.Nd) (id : Int) (w : World) (hv : NodesAt w v l) : Calls Tryz.prog 18 #[v, .int .i64 id] w fun e w' => e = .returned (.int .i64 (findI l id)) ∧ w' = w := by
  obtain ⟨a, cap, rfl, hm, hx⟩ := hv.open'
  have HX := Lib.hid hx
  clear hx hv
  go_enter Tryz.func18, Tryz.ntmps18
  go_wp2
  go_loopw [5] (fun i wr => ∃ k : Nat, k ≤ l.length ∧ i = .int .i64 k ∧ wr = w ∧ ∀ j (hj : j < l.length), j < k → l[j].id ≠ id) (fun i _ => l.length - (intOf i).toNat)
  case atStart => exact ⟨0, Nat.zero_le _, rfl, rfl, fun j _ h => by omega⟩
  case round =>
    obtain ⟨k, hk, rfl, rfl, hno⟩ := hrel
    have HNO := Lib.hid hno
    clear hno
    by_cases hlt : k < l.length
    · obtain ⟨b, off, vf, vp, rfl, hb, -, -, c0, -⟩ := HX.out k hlt
      by_cases he : l[k].id = id
      · have hf := findI_at hlt he fun j hj h => HNO.out j hj h
        have HF := Lib.hid hf
        clear hf
        rw [he] at c0
        clear he
        go_wp2
        refine bodyPost_ret (v := .int .i64 k) (by simp [results, Tryz.results18, go_sem]) rfl (by rw [HF.out]; first | exact ⟨rfl, rfl⟩ | exact ⟨rfl, trivial⟩ | trivial)
      · have hbe : (l[k].id == id) = false := by simpa using he
        have HNE := Lib.hid he
        clear he
        generalize hgx : l[k].id = x at *
        have HGX := Lib.hid hgx
        clear hgx
        go_wp2
        go_roundw
        case rel => exact ⟨k + 1, by omega, by go_num, trivial, fun j hj h => by
          rcases Nat.lt_or_ge j k with h1 | h1
          · exact HNO.out j hj h1
          · obtain rfl : j = k := by omega
            rw [HGX.out]
            exact HNE.out⟩
        case measure => first | (simp [intOf]; done) | (simp [intOf]; omega)
    · obtain rfl : k = l.length := by omega
      have hf := findI_no fun j hj => HNO.out j hj hj
      have HF := Lib.hid hf
      clear hf
      go_wp2
      refine bodyPost_ret (v := .int .i64 (-1)) (by simp [results, Tryz.results18, go_sem]) rfl (by rw [HF.out]; first | exact ⟨rfl, rfl⟩ | exact ⟨rfl, trivial⟩ | trivial)

set_option maxHeartbeats 2000000 in
theorem refHas08_any (v : Value) (l : List Int) (n : Int) (w : World) (hv : IntsAt w v l) : Calls Tryz.prog 36 #[v, .int .i64 n] w fun e w' => e = .returned (.bool (decide (n ∈ l))) ∧ w' = w := by
  obtain ⟨a, cap, rfl, hm, hx⟩ := ints_open hv
  have HX := Lib.hid hx
  clear hx hv
  go_enter Tryz.func36, Tryz.ntmps36
  go_wp2
  go_loopw [5] (fun i wr => ∃ k : Nat, k ≤ l.length ∧ i = .int .i64 k ∧ wr = w ∧ ∀ j (hj : j < l.length), j < k → l[j] ≠ n) (fun i _ => l.length - (intOf i).toNat)
  case atStart => exact ⟨0, Nat.zero_le _, rfl, rfl, fun j _ h => by omega⟩
  case round =>
    obtain ⟨k, hk, rfl, rfl, hno⟩ := hrel
    have HNO := Lib.hid hno
    clear hno
    by_cases hlt : k < l.length
    · obtain ⟨b, off, rfl, hb, c0⟩ := HX.out k hlt
      by_cases he : l[k] = n
      · have hf : n ∈ l := he ▸ List.getElem_mem hlt
        have HF := Lib.hid hf
        clear hf
        rw [he] at c0
        clear he
        go_wp2
        refine bodyPost_ret (v := .bool true) (by simp [results, Tryz.results36, go_sem]) rfl (by rw [decide_eq_true HF.out]; first | exact ⟨rfl, rfl⟩ | exact ⟨rfl, trivial⟩ | trivial)
      · have hbe : (l[k] == n) = false := by simpa using he
        have HNE := Lib.hid he
        clear he
        generalize hgx : l[k] = x at *
        have HGX := Lib.hid hgx
        clear hgx
        go_wp2
        go_roundw
        case rel => exact ⟨k + 1, by omega, by go_num, trivial, fun j hj h => by
          rcases Nat.lt_or_ge j k with h1 | h1
          · exact HNO.out j hj h1
          · obtain rfl : j = k := by omega
            rw [HGX.out]
            exact HNE.out⟩
        case measure => first | (simp [intOf]; done) | (simp [intOf]; omega)
    · obtain rfl : k = l.length := by omega
      have hf : n ∉ l := fun q => by
        obtain ⟨j, hj, e⟩ := List.mem_iff_getElem.1 q
        exact HNO.out j hj hj e
      have HF := Lib.hid hf
      clear hf
      go_wp2
      refine bodyPost_ret (v := .bool false) (by simp [results, Tryz.results36, go_sem]) rfl (by rw [decide_eq_false HF.out]; first | exact ⟨rfl, rfl⟩ | exact ⟨rfl, trivial⟩ | trivial)

end Go.Proofs.YtmdmbimfdpngaaaGreat

/-! slices.IndexFunc and ContainsFunc at entries, numbers and lines. -/
namespace Go.Proofs.YtmdmbimfdpngaaaGreat
set_option linter.unusedSimpArgs false
set_option linter.unusedVariables false
open Go.RowKit Ga
set_option maxRecDepth 100000

/-- the place of the first, or below 0 -/
def IdxPost {α : Type} (l : List α) (p : α → Bool) (w : World) (e : Ending) (w' : World) : Prop := ∃ i : Int, e = .returned (.int .i64 i) ∧ decide (0 ≤ i) = l.any p ∧ Grew w w'
theorem any_at {α : Type} {l : List α} {p : α → Bool} {k : Nat} (hk : k < l.length) (h : p l[k] = true) : l.any p = true := List.any_eq_true.2 ⟨_, List.getElem_mem hk, h⟩
theorem any_none {α : Type} {l : List α} {p : α → Bool} (h : ∀ i (hi : i < l.length), i < l.length → p l[i] = false) : l.any p = false := by
  rw [List.any_eq_false]
  intro x hx
  obtain ⟨i, hi, rfl⟩ := List.mem_iff_getElem.1 hx
  rw [h i hi hi]
  simp
/-- a line as it lies -/
def encLn (x : Gr.Ln) : List Value := [.int .i64 x.sink, .int .i64 x.frm, .int .i64 x.key, .int .i64 x.v.1, .int .i64 x.v.2]
abbrev LnsAt (w : World) (v : Value) (l : List Gr.Ln) : Prop := RowsAt 5 encLn w v l
theorem LnsAt.open5 {w : World} {v : Value} {l : List Gr.Ln} (h : LnsAt w v l) : ∃ a cap, v = .slice a l.length cap ∧ l.length ≤ 9223372036854775807 ∧ ∀ i (hi : i < l.length), ∃ b off, a = some ⟨b, off, none⟩ ∧ Pre b w ∧
    w.cell? ⟨b, off + i * 5, none⟩ = some (.int .i64 l[i].sink) ∧ w.cell? ⟨b, off + i * 5 + 1, none⟩ = some (.int .i64 l[i].frm) ∧ w.cell? ⟨b, off + i * 5 + 2, none⟩ = some (.int .i64 l[i].key) ∧ w.cell? ⟨b, off + i * 5 + 3, none⟩ = some (.int .i64 l[i].v.1) ∧ w.cell? ⟨b, off + i * 5 + 4, none⟩ = some (.int .i64 l[i].v.2) := by
  obtain ⟨a, cap, rfl, hm, hx⟩ := h
  refine ⟨a, cap, rfl, by unfold maxLen at hm; omega, fun i hi => ?_⟩
  obtain ⟨b, off, rfl, hc⟩ := hx (by intro e; subst e; simp at hi)
  have hj := fun j u => hc i l[i] (List.getElem?_eq_getElem hi) j u
  have h0 := hj 0 _ rfl
  exact ⟨b, off, rfl, Pre.mk (World.block_lt_of_cell? w _ h0), h0, hj 1 _ rfl, hj 2 _ rfl, hj 3 _ rfl, hj 4 _ rfl⟩
set_option maxHeartbeats 4000000 in
theorem indexEn_any (B : Nat) (v : Value) (l : List Tab.En) (p : Tab.En → Bool) (w : World) (hv : EntsAt w v l) (hp : ∀ W x, x ∈ l → Grew w W → Calls Tryz.prog 130 #[.agg #[.int .i64 x.node, .int .i64 x.key, .int .i64 x.c0.1, .int .i64 x.c0.2, .int .i64 x.c1.1, .int .i64 x.c1.2], .pointer (some ⟨B, 0, none⟩)] W (Gives (.bool (p x)) W)) : Calls Tryz.prog 154 #[v, .func (.func 130) #[] #[.pointer (some ⟨B, 0, none⟩)]] w (IdxPost l p w) := by
  have HV := Lib.hid hv
  have HP := Lib.hid hp
  obtain ⟨a, cap, rfl, hm, -⟩ := EntsAt.open6 hv
  clear hv hp
  go_enter Tryz.func154, Tryz.ntmps154
  go_wp2
  go_loopg [8] l.length (fun gg s8 wr => ∃ k : Nat, k ≤ l.length ∧ l.length - k ≤ gg ∧ s8 = .int .i64 k ∧ Hid (Grew w wr) ∧ Hid (∀ i (h : i < l.length), i < k → p l[i] = false))
  case atStart => exact ⟨0, by omega, by omega, rfl, Lib.hid (by repeat (first | with_reducible exact Grew.refl _ | apply Grew.more | apply Grew.alloc | apply Grew.drew | apply Grew.drewN)), Lib.hid fun i _ h => by omega⟩
  case round =>
    obtain ⟨k, hk, hgg, rfl, HG, HNO⟩ := hrel
    by_cases hlt : k < l.length
    · obtain ⟨a', cap', e, -, hx⟩ := EntsAt.open6 (HV.out.grew HG.out)
      cases e
      obtain ⟨b, off, rfl, hb, c0, c1, c2, c3, c4, c5⟩ := hx k hlt
      have HANY := Lib.hid fun h => any_at (p := p) hlt h
      have HNX : Hid (p l[k] = false → ∀ i (h : i < l.length), i < k + 1 → p l[i] = false) := Lib.hid fun h i hi h2 => (Nat.lt_or_ge i k).elim (HNO.out i hi) fun h3 => by
        obtain rfl : i = k := by omega
        exact h
      have HC := Lib.hid fun W (g : Grew wr W) => HP.out W _ (List.getElem_mem hlt) (HG.out.trans g)
      clear hx
      generalize l[k] = x at *
      cases hq : p x
      · have HQ := Lib.hid hq
        have HNX2 := Lib.hid (HNX.out hq)
        clear hq
        go_wp2_with (go_at_call 130; refine (HC.out _ (by repeat (first | with_reducible exact Grew.refl _ | apply Grew.more | apply Grew.alloc | apply Grew.drew | apply Grew.drewN))).mono ?_; rintro e w1 ⟨rfl, R1, n1, rfl⟩; rw [HQ.out])
        go_roundg (l.length - (k + 1))
        case measure => omega
        case rel => exact ⟨k + 1, by omega, by omega, by go_num, Lib.hid (HG.out.trans (by repeat (first | with_reducible exact Grew.refl _ | apply Grew.more | apply Grew.alloc | apply Grew.drew | apply Grew.drewN))), HNX2⟩
      · have HQ := Lib.hid hq
        have HANY2 := Lib.hid (HANY.out hq)
        clear hq
        go_wp2_with (go_at_call 130; refine (HC.out _ (by repeat (first | with_reducible exact Grew.refl _ | apply Grew.more | apply Grew.alloc | apply Grew.drew | apply Grew.drewN))).mono ?_; rintro e w1 ⟨rfl, R1, n1, rfl⟩; rw [HQ.out])
        go_ret
        exact ⟨k, rfl, by rw [HANY2.out]; exact decide_eq_true (by omega), HG.out.trans (by repeat (first | with_reducible exact Grew.refl _ | apply Grew.more | apply Grew.alloc | apply Grew.drew | apply Grew.drewN))⟩
    · obtain rfl : k = l.length := by omega
      have HANY := Lib.hid (any_none (p := p) HNO.out)
      go_wp2
      go_ret
      exact ⟨-1, rfl, by rw [HANY.out]; rfl, HG.out⟩
set_option maxHeartbeats 4000000 in
theorem containsEn_any (B : Nat) (v : Value) (l : List Tab.En) (p : Tab.En → Bool) (w : World) (hv : EntsAt w v l) (hp : ∀ W x, x ∈ l → Grew w W → Calls Tryz.prog 130 #[.agg #[.int .i64 x.node, .int .i64 x.key, .int .i64 x.c0.1, .int .i64 x.c0.2, .int .i64 x.c1.1, .int .i64 x.c1.2], .pointer (some ⟨B, 0, none⟩)] W (Gives (.bool (p x)) W)) : Calls Tryz.prog 129 #[v, .func (.func 130) #[] #[.pointer (some ⟨B, 0, none⟩)]] w (Gives (.bool (l.any p)) w) := by
  have HI := Lib.hid (indexEn_any B v l p w hv hp)
  obtain ⟨a, cap, rfl, hm, -⟩ := EntsAt.open6 hv
  clear hv hp
  go_enter Tryz.func129, Tryz.ntmps129
  go_wp2_with (go_at_call 154; refine HI.out.mono ?_; rintro e w1 ⟨i, rfl, hi, R1, n1, rfl⟩; (have HQ := Lib.hid hi); clear hi)
  go_ret
  exact ⟨by rw [← HQ.out]; rfl, by repeat (first | with_reducible exact Grew.refl _ | apply Grew.more | apply Grew.alloc | apply Grew.drew | apply Grew.drewN)⟩
set_option maxHeartbeats 4000000 in
theorem indexIn_any (v : Value) (l : List Int) (p : Int → Bool) (w : World) (hv : IntsAt w v l) (hp : ∀ W x, x ∈ l → Grew w W → Calls Tryz.prog 50 #[.int .i64 x] W (Gives (.bool (p x)) W)) : Calls Tryz.prog 97 #[v, .func (.func 50) #[] #[]] w (IdxPost l p w) := by
  have HV := Lib.hid hv
  have HP := Lib.hid hp
  obtain ⟨a, cap, rfl, hm, -⟩ := ints_open hv
  clear hv hp
  go_enter Tryz.func97, Tryz.ntmps97
  go_wp2
  go_loopg [8] l.length (fun gg s8 wr => ∃ k : Nat, k ≤ l.length ∧ l.length - k ≤ gg ∧ s8 = .int .i64 k ∧ Hid (Grew w wr) ∧ Hid (∀ i (h : i < l.length), i < k → p l[i] = false))
  case atStart => exact ⟨0, by omega, by omega, rfl, Lib.hid (by repeat (first | with_reducible exact Grew.refl _ | apply Grew.more | apply Grew.alloc | apply Grew.drew | apply Grew.drewN)), Lib.hid fun i _ h => by omega⟩
  case round =>
    obtain ⟨k, hk, hgg, rfl, HG, HNO⟩ := hrel
    by_cases hlt : k < l.length
    · obtain ⟨a', cap', e, -, hx⟩ := ints_open (HV.out.grew HG.out)
      cases e
      obtain ⟨b, off, rfl, hb, c0⟩ := hx k hlt
      have HANY := Lib.hid fun h => any_at (p := p) hlt h
      have HNX : Hid (p l[k] = false → ∀ i (h : i < l.length), i < k + 1 → p l[i] = false) := Lib.hid fun h i hi h2 => (Nat.lt_or_ge i k).elim (HNO.out i hi) fun h3 => by
        obtain rfl : i = k := by omega
        exact h
      have HC := Lib.hid fun W (g : Grew wr W) => HP.out W _ (List.getElem_mem hlt) (HG.out.trans g)
      clear hx
      generalize l[k] = x at *
      cases hq : p x
      · have HQ := Lib.hid hq
        have HNX2 := Lib.hid (HNX.out hq)
        clear hq
        go_wp2_with (go_at_call 50; refine (HC.out _ (by repeat (first | with_reducible exact Grew.refl _ | apply Grew.more | apply Grew.alloc | apply Grew.drew | apply Grew.drewN))).mono ?_; rintro e w1 ⟨rfl, R1, n1, rfl⟩; rw [HQ.out])
        go_roundg (l.length - (k + 1))
        case measure => omega
        case rel => exact ⟨k + 1, by omega, by omega, by go_num, Lib.hid (HG.out.trans (by repeat (first | with_reducible exact Grew.refl _ | apply Grew.more | apply Grew.alloc | apply Grew.drew | apply Grew.drewN))), HNX2⟩
      · have HQ := Lib.hid hq
        have HANY2 := Lib.hid (HANY.out hq)
        clear hq
        go_wp2_with (go_at_call 50; refine (HC.out _ (by repeat (first | with_reducible exact Grew.refl _ | apply Grew.more | apply Grew.alloc | apply Grew.drew | apply Grew.drewN))).mono ?_; rintro e w1 ⟨rfl, R1, n1, rfl⟩; rw [HQ.out])
        go_ret
        exact ⟨k, rfl, by rw [HANY2.out]; exact decide_eq_true (by omega), HG.out.trans (by repeat (first | with_reducible exact Grew.refl _ | apply Grew.more | apply Grew.alloc | apply Grew.drew | apply Grew.drewN))⟩
    · obtain rfl : k = l.length := by omega
      have HANY := Lib.hid (any_none (p := p) HNO.out)
      go_wp2
      go_ret
      exact ⟨-1, rfl, by rw [HANY.out]; rfl, HG.out⟩
set_option maxHeartbeats 4000000 in
theorem containsIn_any (v : Value) (l : List Int) (p : Int → Bool) (w : World) (hv : IntsAt w v l) (hp : ∀ W x, x ∈ l → Grew w W → Calls Tryz.prog 50 #[.int .i64 x] W (Gives (.bool (p x)) W)) : Calls Tryz.prog 54 #[v, .func (.func 50) #[] #[]] w (Gives (.bool (l.any p)) w) := by
  have HI := Lib.hid (indexIn_any v l p w hv hp)
  obtain ⟨a, cap, rfl, hm, -⟩ := ints_open hv
  clear hv hp
  go_enter Tryz.func54, Tryz.ntmps54
  go_wp2_with (go_at_call 97; refine HI.out.mono ?_; rintro e w1 ⟨i, rfl, hi, R1, n1, rfl⟩; (have HQ := Lib.hid hi); clear hi)
  go_ret
  exact ⟨by rw [← HQ.out]; rfl, by repeat (first | with_reducible exact Grew.refl _ | apply Grew.more | apply Grew.alloc | apply Grew.drew | apply Grew.drewN)⟩
set_option maxHeartbeats 4000000 in
theorem indexLn_any (v : Value) (l : List Gr.Ln) (p : Gr.Ln → Bool) (w : World) (hv : LnsAt w v l) (hp : ∀ W x, x ∈ l → Grew w W → Calls Tryz.prog 51 #[.agg #[.int .i64 x.sink, .int .i64 x.frm, .int .i64 x.key, .int .i64 x.v.1, .int .i64 x.v.2]] W (Gives (.bool (p x)) W)) : Calls Tryz.prog 99 #[v, .func (.func 51) #[] #[]] w (IdxPost l p w) := by
  have HV := Lib.hid hv
  have HP := Lib.hid hp
  obtain ⟨a, cap, rfl, hm, -⟩ := LnsAt.open5 hv
  clear hv hp
  go_enter Tryz.func99, Tryz.ntmps99
  go_wp2
  go_loopg [8] l.length (fun gg s8 wr => ∃ k : Nat, k ≤ l.length ∧ l.length - k ≤ gg ∧ s8 = .int .i64 k ∧ Hid (Grew w wr) ∧ Hid (∀ i (h : i < l.length), i < k → p l[i] = false))
  case atStart => exact ⟨0, by omega, by omega, rfl, Lib.hid (by repeat (first | with_reducible exact Grew.refl _ | apply Grew.more | apply Grew.alloc | apply Grew.drew | apply Grew.drewN)), Lib.hid fun i _ h => by omega⟩
  case round =>
    obtain ⟨k, hk, hgg, rfl, HG, HNO⟩ := hrel
    by_cases hlt : k < l.length
    · obtain ⟨a', cap', e, -, hx⟩ := LnsAt.open5 (HV.out.grew HG.out)
      cases e
      obtain ⟨b, off, rfl, hb, c0, c1, c2, c3, c4⟩ := hx k hlt
      have HANY := Lib.hid fun h => any_at (p := p) hlt h
      have HNX : Hid (p l[k] = false → ∀ i (h : i < l.length), i < k + 1 → p l[i] = false) := Lib.hid fun h i hi h2 => (Nat.lt_or_ge i k).elim (HNO.out i hi) fun h3 => by
        obtain rfl : i = k := by omega
        exact h
      have HC := Lib.hid fun W (g : Grew wr W) => HP.out W _ (List.getElem_mem hlt) (HG.out.trans g)
      clear hx
      generalize l[k] = x at *
      cases hq : p x
      · have HQ := Lib.hid hq
        have HNX2 := Lib.hid (HNX.out hq)
        clear hq
        go_wp2_with (go_at_call 51; refine (HC.out _ (by repeat (first | with_reducible exact Grew.refl _ | apply Grew.more | apply Grew.alloc | apply Grew.drew | apply Grew.drewN))).mono ?_; rintro e w1 ⟨rfl, R1, n1, rfl⟩; rw [HQ.out])
        go_roundg (l.length - (k + 1))
        case measure => omega
        case rel => exact ⟨k + 1, by omega, by omega, by go_num, Lib.hid (HG.out.trans (by repeat (first | with_reducible exact Grew.refl _ | apply Grew.more | apply Grew.alloc | apply Grew.drew | apply Grew.drewN))), HNX2⟩
      · have HQ := Lib.hid hq
        have HANY2 := Lib.hid (HANY.out hq)
        clear hq
        go_wp2_with (go_at_call 51; refine (HC.out _ (by repeat (first | with_reducible exact Grew.refl _ | apply Grew.more | apply Grew.alloc | apply Grew.drew | apply Grew.drewN))).mono ?_; rintro e w1 ⟨rfl, R1, n1, rfl⟩; rw [HQ.out])
        go_ret
        exact ⟨k, rfl, by rw [HANY2.out]; exact decide_eq_true (by omega), HG.out.trans (by repeat (first | with_reducible exact Grew.refl _ | apply Grew.more | apply Grew.alloc | apply Grew.drew | apply Grew.drewN))⟩
    · obtain rfl : k = l.length := by omega
      have HANY := Lib.hid (any_none (p := p) HNO.out)
      go_wp2
      go_ret
      exact ⟨-1, rfl, by rw [HANY.out]; rfl, HG.out⟩
set_option maxHeartbeats 4000000 in
theorem containsLn_any (v : Value) (l : List Gr.Ln) (p : Gr.Ln → Bool) (w : World) (hv : LnsAt w v l) (hp : ∀ W x, x ∈ l → Grew w W → Calls Tryz.prog 51 #[.agg #[.int .i64 x.sink, .int .i64 x.frm, .int .i64 x.key, .int .i64 x.v.1, .int .i64 x.v.2]] W (Gives (.bool (p x)) W)) : Calls Tryz.prog 56 #[v, .func (.func 51) #[] #[]] w (Gives (.bool (l.any p)) w) := by
  have HI := Lib.hid (indexLn_any v l p w hv hp)
  obtain ⟨a, cap, rfl, hm, -⟩ := LnsAt.open5 hv
  clear hv hp
  go_enter Tryz.func56, Tryz.ntmps56
  go_wp2_with (go_at_call 99; refine HI.out.mono ?_; rintro e w1 ⟨i, rfl, hi, R1, n1, rfl⟩; (have HQ := Lib.hid hi); clear hi)
  go_ret
  exact ⟨by rw [← HQ.out]; rfl, by repeat (first | with_reducible exact Grew.refl _ | apply Grew.more | apply Grew.alloc | apply Grew.drew | apply Grew.drewN)⟩
end Go.Proofs.YtmdmbimfdpngaaaGreat

/-! Steps in memory: fifteen cells each. -/
namespace Go.Proofs.YtmdmbimfdpngaaaGreat
set_option linter.unusedSimpArgs false
set_option linter.unusedVariables false
open Go.RowKit Ga
set_option maxRecDepth 100000

/-- a step as it lies -/
structure StC where
  kind : Int
  c : NdC
  reset : Bool
instance : Inhabited StC := ⟨⟨0, default, false⟩⟩
def encSt (s : StC) : List Value := [.int .i64 s.kind, .int .i64 s.c.id, .int .i64 s.c.kind, .slice s.c.af s.c.nf s.c.cf, .slice s.c.ap s.c.np s.c.cp, .int .i64 s.c.par, .int .i64 s.c.r0, .int .i64 s.c.r1, .int .i64 s.c.r2, .int .i64 s.c.r3, .int .i64 s.c.r4, .int .i64 s.c.r5, .int .i64 s.c.r6, .int .i64 s.c.r7, .bool s.reset]
theorem encSt_len (s : StC) : (encSt s).length = 15 := rfl
theorem encSt_one (c : StC) : ∀ u ∈ encSt c, u.oneCell' = true := by
  intro u hu
  simp [encSt] at hu
  rcases hu with rfl | rfl | rfl | rfl | rfl | rfl | rfl | rfl | rfl | rfl | rfl | rfl | rfl | rfl | rfl <;> rfl
structure StepIs (w : World) (c : StC) (s : Gr.Stp) : Prop where
  kind : s.kind = c.kind
  nd : NodeIs w c.c s.nd
  reset : s.reset = c.reset
theorem StepIs.grew {w w' : World} {c : StC} {s : Gr.Stp} (h : StepIs w c s) (g : Grew w w') : StepIs w' c s := { h with nd := h.nd.grew g }
def StepsAt (w : World) (v : Value) (l : List Gr.Stp) : Prop := ∃ lc : List StC, RowsAt 15 encSt w v lc ∧ lc.length = l.length ∧ ∀ (i : Nat) (c : StC) (s : Gr.Stp), lc[i]? = some c → l[i]? = some s → StepIs w c s
theorem StepsAt.grew {w w' : World} {v : Value} {l : List Gr.Stp} (h : StepsAt w v l) (g : Grew w w') : StepsAt w' v l := by
  obtain ⟨lc, h1, h2, h3⟩ := h
  exact ⟨lc, h1.grew g, h2, fun i c n hc hn => (h3 i c n hc hn).grew g⟩
theorem StepsAt.nil (w : World) : StepsAt w (.slice none 0 0) [] := ⟨[], RowsAt.nil, rfl, fun i c n h => by simp at h⟩
theorem StepsAt.r8 {w : World} {v : Value} {l : List Gr.Stp} (h : StepsAt w v l) : ∀ s ∈ l, s.nd.route.length = 8 := by
  obtain ⟨lc, -, h2, h3⟩ := h
  intro n hn
  obtain ⟨i, hi, rfl⟩ := List.mem_iff_getElem.1 hn
  rw [(h3 i lc[i] l[i] (List.getElem?_eq_getElem (by omega)) (List.getElem?_eq_getElem hi)).nd.route]
  rfl
theorem StepsAt.openC {w : World} {v : Value} {l : List Gr.Stp} (h : StepsAt w v l) : ∃ a cap, v = .slice a l.length cap ∧ l.length ≤ 9223372036854775807 ∧ ∀ i (hi : i < l.length), ∃ b off c, a = some ⟨b, off, none⟩ ∧ Pre b w ∧ StepIs w c l[i] ∧
    w.cell? ⟨b, off + i * 15, none⟩ = some (.int .i64 c.kind) ∧
    w.cell? ⟨b, off + i * 15 + 1, none⟩ = some (.int .i64 c.c.id) ∧
    w.cell? ⟨b, off + i * 15 + 2, none⟩ = some (.int .i64 c.c.kind) ∧
    w.cell? ⟨b, off + i * 15 + 3, none⟩ = some (.slice c.c.af c.c.nf c.c.cf) ∧
    w.cell? ⟨b, off + i * 15 + 4, none⟩ = some (.slice c.c.ap c.c.np c.c.cp) ∧
    w.cell? ⟨b, off + i * 15 + 5, none⟩ = some (.int .i64 c.c.par) ∧
    w.cell? ⟨b, off + i * 15 + 6, none⟩ = some (.int .i64 c.c.r0) ∧
    w.cell? ⟨b, off + i * 15 + 7, none⟩ = some (.int .i64 c.c.r1) ∧
    w.cell? ⟨b, off + i * 15 + 8, none⟩ = some (.int .i64 c.c.r2) ∧
    w.cell? ⟨b, off + i * 15 + 9, none⟩ = some (.int .i64 c.c.r3) ∧
    w.cell? ⟨b, off + i * 15 + 10, none⟩ = some (.int .i64 c.c.r4) ∧
    w.cell? ⟨b, off + i * 15 + 11, none⟩ = some (.int .i64 c.c.r5) ∧
    w.cell? ⟨b, off + i * 15 + 12, none⟩ = some (.int .i64 c.c.r6) ∧
    w.cell? ⟨b, off + i * 15 + 13, none⟩ = some (.int .i64 c.c.r7) ∧
    w.cell? ⟨b, off + i * 15 + 14, none⟩ = some (.bool c.reset) := by
  obtain ⟨lc, ⟨a, cap, rfl, hm, hx⟩, h2, h3⟩ := h
  refine ⟨a, cap, by rw [h2], by unfold maxLen at hm; omega, fun i hi => ?_⟩
  have hi' : i < lc.length := by omega
  obtain ⟨b, off, rfl, hc⟩ := hx (by intro e; subst e; simp at hi')
  have hn := h3 i lc[i] l[i] (List.getElem?_eq_getElem hi') (List.getElem?_eq_getElem hi)
  have hj := fun j u => hc i lc[i] (List.getElem?_eq_getElem hi') j u
  have h0 := hj 0 _ rfl
  exact ⟨b, off, lc[i], rfl, Pre.mk (World.block_lt_of_cell? w _ h0), hn, h0, hj 1 _ rfl, hj 2 _ rfl, hj 3 _ rfl, hj 4 _ rfl, hj 5 _ rfl, hj 6 _ rfl, hj 7 _ rfl, hj 8 _ rfl, hj 9 _ rfl, hj 10 _ rfl, hj 11 _ rfl, hj 12 _ rfl, hj 13 _ rfl, hj 14 _ rfl⟩
/-- .. written out -/
theorem StepIs.lit {w : World} {c : StC} {s : Gr.Stp} (h : StepIs w c s) : ∃ kind reset id kd af cf ap cp par r0 r1 r2 r3 r4 r5 r6 r7, c = ⟨kind, ⟨id, kd, af, s.nd.frm.length, cf, ap, s.nd.prog.length, cp, par, r0, r1, r2, r3, r4, r5, r6, r7⟩, reset⟩ := by
  obtain ⟨kind, c, reset⟩ := c
  obtain ⟨id, kd, af, cf, ap, cp, par, r0, r1, r2, r3, r4, r5, r6, r7, e⟩ := h.nd.lit
  simp only at e
  subst e
  exact ⟨_, _, _, _, _, _, _, _, _, _, _, _, _, _, _, _, _, rfl⟩
/-- a node alone in a slice just made -/
theorem NodesAt.one {w : World} {c : NdC} {n : Gr.Nd} (h : NodeIs w c n) (k : Nat) (hk : k = w.heap.size) (cs : List Value) (hcs : cs = encNd c) : NodesAt (w.alloc (.cells cs.toArray 42)) (.slice (some ⟨k, 0, none⟩) 1 1) [n] := by
  refine ⟨[c], RowsAt.fresh (l := [c]) rfl (by simp [maxLen]) encNd_len hk (by rw [hcs]; simp), rfl, ?_⟩
  intro i c' n' h1 h2
  match i with
  | 0 =>
    cases h1
    cases h2
    exact h.grew ((Grew.refl _).alloc _)
  | i + 1 => cases h1
end Go.Proofs.YtmdmbimfdpngaaaGreat

/-! A manifest in memory: seven cells, five slices among them. -/
namespace Go.Proofs.YtmdmbimfdpngaaaGreat
set_option linter.unusedSimpArgs false
set_option linter.unusedVariables false
open Go.RowKit Ga
set_option maxRecDepth 100000

/-- a manifest as it lies -/
structure MfC where
  epoch : Int
  plans : Int
  ao : Option Addr
  no : Nat
  co : Nat
  ag : Option Addr
  ng : Nat
  cg : Nat
  ae : Option Addr
  ne : Nat
  ce : Nat
  ax : Option Addr
  nx : Nat
  cx : Nat
  ap : Option Addr
  np : Nat
  cp : Nat
structure MfIs (w : World) (c : MfC) (m : Gr.Mf) : Prop where
  epoch : m.epoch = c.epoch
  plans : m.plans = c.plans
  o : IntsAt w (.slice c.ao c.no c.co) m.offs
  g : NodesAt w (.slice c.ag c.ng c.cg) m.graph
  e : EntsAt w (.slice c.ae c.ne c.ce) m.ents
  x : LnsAt w (.slice c.ax c.nx c.cx) m.out
  p : StepsAt w (.slice c.ap c.np c.cp) m.plan
theorem MfIs.grew {w w' : World} {c : MfC} {m : Gr.Mf} (h : MfIs w c m) (g : Grew w w') : MfIs w' c m := ⟨h.epoch, h.plans, h.o.grew g, h.g.grew g, h.e.grew g, h.x.grew g, h.p.grew g⟩
/-- .. written out -/
theorem MfIs.lit {w : World} {c : MfC} {m : Gr.Mf} (h : MfIs w c m) : ∃ ep pl ao co ag cg ae ce ax cx ap cp, c = ⟨ep, pl, ao, m.offs.length, co, ag, m.graph.length, cg, ae, m.ents.length, ce, ax, m.out.length, cx, ap, m.plan.length, cp⟩ := by
  obtain ⟨ep, pl, ao, no, co, ag, ng, cg, ae, ne, ce, ax, nx, cx, ap, np, cp⟩ := c
  obtain ⟨a1, c1, e1⟩ := h.o.len
  obtain ⟨a2, c2, e2, -⟩ := h.g.openC
  obtain ⟨a3, c3, e3⟩ := h.e.len
  obtain ⟨a4, c4, e4⟩ := h.x.len
  obtain ⟨a5, c5, e5, -⟩ := h.p.openC
  simp only at e1 e2 e3 e4 e5
  cases e1
  cases e2
  cases e3
  cases e4
  cases e5
  exact ⟨ep, pl, _, _, _, _, _, _, _, _, _, _, rfl⟩
end Go.Proofs.YtmdmbimfdpngaaaGreat

/-! A slice of the call's own, seen from further back. -/
namespace Go.Proofs.YtmdmbimfdpngaaaGreat
set_option linter.unusedSimpArgs false
set_option linter.unusedVariables false
open Go.RowKit
set_option maxRecDepth 100000

theorem OwnAt.low {α : Type} {base base' : Nat} {e : TypeId} {k : Nat} {enc : α → List Value} {w : World} {v : Value} {l : List α} (h : OwnAt base e k enc w v l) (hb : base' ≤ base) : OwnAt base' e k enc w v l := by
  obtain ⟨h3, h4⟩ := h
  refine ⟨h3, ?_⟩
  rcases h4 with h | ⟨g2, cap2, cur, hv2, hb2, r⟩
  · exact .inl h
  · exact .inr ⟨g2, cap2, cur, hv2, Nat.le_trans hb hb2, r⟩
end Go.Proofs.YtmdmbimfdpngaaaGreat

/-! Instructions and values as two cells. -/
namespace Go.Proofs.YtmdmbimfdpngaaaGreat
set_option linter.unusedSimpArgs false
set_option linter.unusedVariables false
open Go.RowKit Ga
set_option maxRecDepth 100000

def encI (a : Val) : List Value := [.int .i64 a.1, .int .i64 a.2]
theorem infoIns : (Tryz.prog.info? 153).map (fun i => (i.zero, i.size, i.bytes)) = some (some (.agg #[.int .i64 0, .int .i64 0]), 2, 16) := by kernel_rfl

theorem encI_len (l : Val) : (encI l).length = 2 := rfl
theorem encI_one (l : Val) : ∀ u ∈ encI l, u.oneCell' = true := by
  intro u hu; simp [encI] at hu; rcases hu with rfl | rfl <;> rfl
theorem encI_at (W : World) (a : Val) (t : TypeId) (b : Nat) {c : Array Value} (hc : c = #[.int .i64 a.1, .int .i64 a.2]) (hb : b = W.heap.size) : ∀ j u, (encI a)[j]? = some u → (W.alloc (.cells c t)).cell? ⟨b, j, none⟩ = some u := by
  subst hc
  intro j u hu
  rw [new_cells W _ t b hb j]
  simpa [encI] using hu
end Go.Proofs.YtmdmbimfdpngaaaGreat
