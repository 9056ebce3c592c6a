import Derived.Test.YtmnllmbchpebbaaGreatDoorGe13
import Derived.Test.YtmnllmbchpebbaaGreatDoorGe14
import Derived.Test.YtmnllmbchpebbaaGreatDoorGe9
import Derived.Deep.RegionHeld3
import Derived.Test.YtmnllmbchpebbaaGreatDoorGe6
/-! lines: the words of the document's example. -/
namespace Go.Proofs.YtmnllmbchpebbaaGreatDoor
set_option linter.unusedSimpArgs false
set_option linter.unusedVariables false
open Go.RowKit Ga
set_option maxRecDepth 100000

/-- what the walks of texts ask of the library's variables -/
structure Env27 (w : World) : Prop where
  m : CellM w
  e : Errs w
  p : Pow w
  a : Asc w
theorem Env27.grew {w w' : World} (h : Env27 w) (g : Grew w w') : Env27 w' := ⟨h.m.grew g, h.e.grew g, h.p.grew g, h.a.grew g⟩
theorem split_at (s sep : ByteArray) (xs : List (List UInt8)) (hx : Lib.splitB sep 0 (Lib.countB s sep) s = xs.map fun l => (⟨l.toArray⟩ : ByteArray)) (hs : s.size ≤ 1000000) (h1 : 1 ≤ sep.size) (hn : xs.length ≤ 1000000) (w : World) (hM : CellM w) :
    Calls Tryz.prog 22 #[.string s, .string sep] w (fun e w' => ∃ v, e = .returned v ∧ OwnAt w.heap.size 9 1 encS w' v xs ∧ Grew w w') := by
  obtain ⟨m, hm⟩ := hM
  have hlen := Lib.splitB_all sep h1 0 _ s rfl
  rw [hx, List.length_map] at hlen
  refine (Tryz.strings_Split s sep m w (by omega) hm h1).mono ?_
  rintro e w' ⟨rfl, rfl⟩
  refine ⟨_, rfl, ?_, (Grew.refl w).alloc _⟩
  rw [hx]
  exact OwnAt.fresh (t := 9) rfl hlen.symm hlen.symm (by unfold maxLen; omega) encS_len rfl (Nat.le_refl _) (by rw [flatMap_encS, List.map_map]; rfl)
theorem strs_open {base : Nat} {w : World} {v : Value} {xs : List (List UInt8)} (h : OwnAt base 9 1 encS w v xs) (hne : xs ≠ []) : ∃ b cap, v = .slice (some ⟨b, 0, none⟩) xs.length cap ∧ Pre b w ∧ ∀ i (hi : i < xs.length), w.cell? ⟨b, i, none⟩ = some (.string ⟨xs[i].toArray⟩) := by
  have hr := h.rows encS_len
  rcases h.form with ⟨-, e⟩ | ⟨b, cap, rfl, -⟩
  · exact absurd e hne
  obtain ⟨a', c', e, -, hx⟩ := hr
  cases e
  obtain ⟨b', off, e2, hc⟩ := hx hne
  cases e2
  have h1 : ∀ i (hi : i < xs.length), w.cell? ⟨b, i, none⟩ = some (.string ⟨xs[i].toArray⟩) := fun i hi => by
    have := hc i xs[i] (List.getElem?_eq_getElem hi) 0 _ rfl
    simpa using this
  refine ⟨b, cap, rfl, ?_, h1⟩
  exact Pre.ofCell (h1 0 (by cases xs with | nil => exact absurd rfl hne | cons => simp))
def z8 : Array Value := #[.int .i64 0, .int .i64 0, .int .i64 0, .int .i64 0, .int .i64 0, .int .i64 0, .int .i64 0, .int .i64 0]
end Go.Proofs.YtmnllmbchpebbaaGreatDoor

/-! lines: the parser at the document's example. -/
namespace Go.Proofs.YtmnllmbchpebbaaGreatDoor
set_option linter.unusedSimpArgs false
set_option linter.unusedVariables false
open Go.RowKit Ga
set_option maxRecDepth 100000

theorem encN_1 (x : Int) : ∀ u ∈ encN x, u.oneCell' = true := by intro u hu; simp [encN] at hu; subst hu; rfl
theorem infoI_1 : (Tryz.prog.info? 3).map (fun i => (i.zero, i.size, i.bytes)) = some (some (.int .i64 0), 1, 8) := by kernel_rfl
theorem int_at1 (W : World) (x : Int) (t : TypeId) (b : Nat) {c : Array Value} (hc : c = (encN x).toArray) (hb : b = W.heap.size) : ∀ j u, (([x] : List Int).flatMap encN)[j]? = some u → (W.alloc (.cells c t)).cell? ⟨b, j, none⟩ = some u := by
  subst hc
  intro j u hu
  rw [new_cells W _ t b hb j]
  simpa using hu
end Go.Proofs.YtmnllmbchpebbaaGreatDoor

/-! lines: the parser at the document's example: a step. -/
namespace Go.Proofs.YtmnllmbchpebbaaGreatDoor
set_option linter.unusedSimpArgs false
set_option linter.unusedVariables false
open Go.RowKit Ga
set_option maxRecDepth 100000

/-- "ADD 2 SINK 0 1 00000000" -/
def stL : List UInt8 := [65, 68, 68, 32, 50, 32, 83, 73, 78, 75, 32, 48, 32, 49, 32, 48, 48, 48, 48, 48, 48, 48, 48]
def N2 : Gr.Nd := ⟨2, 2, [0], [], 1, List.replicate 8 0⟩
def S2 : Gr.Stp := ⟨2, N2, false⟩
theorem own_swap {α : Type} {base : Nat} {e : TypeId} {k : Nat} {enc : α → List Value} {X Y : World} {R : Array Obj} {n : Nat} {v : Value} {l : List α} (h : OwnAt base e k enc (X.more R n) v l) (hs : Y.heap.size = X.heap.size) (hb : X.heap.size ≤ base) : OwnAt base e k enc (Y.more R n) v l := OwnAt.same h fun b hq => by
  have := h.lt b hq
  rw [heap_more_in _ _ _ _ (by omega), heap_more_in _ _ _ _ (by omega), hs]
end Go.Proofs.YtmnllmbchpebbaaGreatDoor

/-! lines: numbers, lists, routes. -/
namespace Go.Proofs.YtmnllmbchpebbaaGreatDoor
set_option linter.unusedSimpArgs false
set_option linter.unusedVariables false
open Go.RowKit Ga
set_option maxRecDepth 100000

theorem str_at (W : World) (x : List UInt8) (y : ByteArray) (t : TypeId) (b : Nat) {c : Array Value} (hy : y = ⟨x.toArray⟩) (hc : c = #[.string y]) (hb : b = W.heap.size) : ∀ j u, (([x] : List (List UInt8)).flatMap encS)[j]? = some u → (W.alloc (.cells c t)).cell? ⟨b, j, none⟩ = some u := by
  subst hc hy
  intro j u hu
  rw [new_cells W _ t b hb j]
  simpa [encS] using hu
theorem ints_two (w : World) (a b : Int) (B : Nat) (hB : B = w.heap.size) : IntsAt (w.alloc (.cells #[.int .i64 a, .int .i64 b] 3)) (.slice (some ⟨B, 0, none⟩) 2 2) [a, b] :=
  OwnAt.rows (OwnAt.fresh (base := w.heap.size) (k := 1) (enc := encN) (l := [a, b]) (t := 3) rfl rfl rfl (by simp [maxLen]) encN_len hB (by omega) rfl) encN_len
theorem num1_any (x : Int) (w : World) : Calls Tryz.prog 76 #[.int .i64 x] w (Gives (.bool (!Li.num x)) w) := by
  by_cases h1 : x < -1000000
  · have e : (!Li.num x) = true := by unfold Li.num; simp; omega
    rw [e]
    go_enter Tryz.func76, Tryz.ntmps76
    go_wp2
    go_ret
    refine ⟨rfl, ?_⟩
    repeat (first | with_reducible exact Grew.refl _ | apply Grew.more | apply Grew.alloc | apply Grew.drew | apply Grew.drewN)
  by_cases h2 : 1000000 < x
  · have e : (!Li.num x) = true := by unfold Li.num; simp; omega
    rw [e]
    go_enter Tryz.func76, Tryz.ntmps76
    go_wp2
    go_ret
    refine ⟨rfl, ?_⟩
    repeat (first | with_reducible exact Grew.refl _ | apply Grew.more | apply Grew.alloc | apply Grew.drew | apply Grew.drewN)
  · have e : (!Li.num x) = false := by unfold Li.num; simp; omega
    rw [e]
    go_enter Tryz.func76, Tryz.ntmps76
    go_wp2
    go_ret
    refine ⟨rfl, ?_⟩
    repeat (first | with_reducible exact Grew.refl _ | apply Grew.more | apply Grew.alloc | apply Grew.drew | apply Grew.drewN)
set_option maxHeartbeats 4000000 in
theorem idxNum_any (v : Value) (l : List Int) (w : World) (hv : IntsAt w v l) : Calls Tryz.prog 113 #[v, .func (.func 76) #[] #[]] w (fun e w' => ∃ k : Int, e = .returned (.int .i64 k) ∧ decide (0 ≤ k) = !l.all Li.num ∧ Grew w w') := by
  have HV := Lib.hid hv
  obtain ⟨a, cap, rfl, hm, -⟩ := ints_open hv
  clear hv
  go_enter Tryz.func113, Tryz.ntmps113
  go_wp2
  go_loopg [8] l.length (fun gg s8 wr => ∃ k : Nat, k ≤ l.length ∧ l.length - k ≤ gg ∧ s8 = .int .i64 k ∧ Hid (Grew w wr) ∧ Hid ((l.take k).all Li.num = true))
  case atStart => exact ⟨0, by omega, by omega, rfl, Lib.hid (by repeat (first | with_reducible exact Grew.refl _ | apply Grew.more | apply Grew.alloc | apply Grew.drew | apply Grew.drewN)), Lib.hid rfl⟩
  case round =>
    obtain ⟨k, hk, hgg, rfl, HG, HA⟩ := hrel
    rename World => wa
    by_cases hlt : k < l.length
    · obtain ⟨a', cap', e, -, hx⟩ := ints_open (HV.out.grew HG.out)
      cases e
      obtain ⟨b, off, rfl, hb, c0⟩ := hx k hlt
      have HS := Lib.hid (take_all_succ (p := Li.num) hlt HA.out)
      have HF := Lib.hid (all_false_at (p := Li.num) hlt)
      clear hx
      generalize l[k] = x at *
      cases hr : Li.num x
      all_goals
        have HR := Lib.hid hr
        clear hr
        go_wp2_with (go_at_call 76; refine (num1_any _ _).mono ?_; rintro e w1 ⟨rfl, R1, n1, rfl⟩; rw [HR.out])
      · go_ret
        refine ⟨k, rfl, ?_, HG.out.trans (by repeat (first | with_reducible exact Grew.refl _ | apply Grew.more | apply Grew.alloc | apply Grew.drew | apply Grew.drewN))⟩
        rw [HF.out HR.out]
        simp
      · go_roundg (l.length - (k + 1))
        case measure => omega
        case rel => exact ⟨k + 1, by omega, by omega, by go_num, Lib.hid (HG.out.trans (by repeat (first | with_reducible exact Grew.refl _ | apply Grew.more | apply Grew.alloc | apply Grew.drew | apply Grew.drewN))), Lib.hid (HS.out HR.out)⟩
    · obtain rfl : k = l.length := by omega
      have hz := HA.out
      rw [List.take_length] at hz
      have HZ := Lib.hid hz
      clear hz HA
      go_wp2
      go_ret
      exact ⟨-1, rfl, by rw [HZ.out]; rfl, HG.out⟩
set_option maxHeartbeats 4000000 in
theorem num_any (v : Value) (l : List Int) (w : World) (hv : IntsAt w v l) : Calls Tryz.prog 30 #[v] w (Gives (.bool (l.all Li.num)) w) := by
  have HI := Lib.hid fun W (q : Grew w W) => idxNum_any v l W (hv.grew q)
  have HK : Hid (∀ W, Grew w W → Calls Tryz.prog 75 #[v, .func (.func 76) #[] #[]] W (Gives (.bool (!l.all Li.num)) W)) := Lib.hid fun W q => by
    have HI2 := Lib.hid fun W2 (q2 : Grew W W2) => HI.out W2 (q.trans q2)
    clear HI q hv
    go_enter Tryz.func75, Tryz.ntmps75
    go_wp2_with (go_at_call 113; refine (HI2.out _ (by repeat (first | with_reducible exact Grew.refl _ | apply Grew.more | apply Grew.alloc | apply Grew.drew | apply Grew.drewN))).mono ?_; rintro e w1 ⟨k, rfl, hk, R1, n1, rfl⟩; (have HK := Lib.hid hk); clear hk)
    go_ret
    exact ⟨ret_bool HK.out, by repeat (first | with_reducible exact Grew.refl _ | apply Grew.more | apply Grew.alloc | apply Grew.drew | apply Grew.drewN)⟩
  obtain ⟨a, cap, rfl, hm, -⟩ := ints_open hv
  clear HI hv
  generalize l.all Li.num = q at *
  go_enter Tryz.func30, Tryz.ntmps30
  go_wp2_with (go_at_call 75; refine (HK.out _ (by repeat (first | with_reducible exact Grew.refl _ | apply Grew.more | apply Grew.alloc | apply Grew.drew | apply Grew.drewN))).mono ?_; rintro e w1 ⟨rfl, R1, n1, rfl⟩)
  go_ret
  exact ⟨by simp, by repeat (first | with_reducible exact Grew.refl _ | apply Grew.more | apply Grew.alloc | apply Grew.drew | apply Grew.drewN)⟩

theorem map_take_snoc {α β : Type} (f : α → β) (l : List α) (k : Nat) (h : k < l.length) : (l.take (k + 1)).map f = (l.take k).map f ++ [f l[k]] := by
  rw [List.take_succ_eq_append_getElem h, List.map_append]; rfl
theorem lens_le (xs : List (List UInt8)) (n : Nat) (h : ∀ x ∈ xs, x.length ≤ n) : Lib.lens xs ≤ n * xs.length := by
  induction xs with
  | nil => simp [Lib.lens]
  | cons x r ih =>
    have h1 := h x (by simp)
    have h2 := ih fun y hy => h y (List.mem_cons_of_mem _ hy)
    unfold Lib.lens at *
    simp only [List.map_cons, List.sum_cons, List.length_cons, Nat.mul_succ]
    omega
theorem join_len (xs : List (List UInt8)) (sep : List UInt8) (n : Nat) (h : ∀ x ∈ xs, x.length ≤ n) : (Lib.join xs sep).length ≤ (n + sep.length) * xs.length := by
  cases xs with
  | nil => simp [Lib.join, List.intercalate]
  | cons x r =>
    have h1 := h x (by simp)
    have h2 := lens_le r n fun y hy => h y (List.mem_cons_of_mem _ hy)
    rw [Lib.join_cons, List.length_append, Lib.joinTail_length, List.length_cons, Nat.mul_succ, Nat.add_mul]
    omega
theorem num_range {x : Int} (h : Li.num x = true) : -9223372036854775808 ≤ x ∧ x ≤ 9223372036854775807 := by
  have := Li.num_iff.1 h
  omega
set_option maxHeartbeats 8000000 in
theorem list_any (v : Value) (l : List Int) (w : World) (hP : Pow w) (hf : IntsAt w v l) (hl : ∀ x ∈ l, Li.num x = true) (h60 : l.length ≤ 60) : Calls Tryz.prog 71 #[v] w (Gives (str (Li.listT l)) w) := by
  by_cases hn : l = []
  · subst hn
    obtain ⟨a, cap, rfl, -, -⟩ := ints_open hf
    clear hP hf hl h60
    show Calls Tryz.prog _ #[.slice a 0 cap] w _
    go_enter Tryz.func71, Tryz.ntmps71
    go_wp2
    go_ret
    exact ⟨rfl, by repeat (first | with_reducible exact Grew.refl _ | apply Grew.more | apply Grew.alloc | apply Grew.drew | apply Grew.drewN)⟩
  have hT : Li.listT l = Lib.join (l.map Lib.itoa) [44] := by unfold Li.listT; exact if_neg hn
  have hJ : (Lib.join (l.map Lib.itoa) [44]).length ≤ 1000000 := by
    have := join_len (l.map Lib.itoa) [44] 8 fun x hx => by
      obtain ⟨n, hn2, rfl⟩ := List.mem_map.1 hx
      exact Li.itoa_len8 (hl n hn2)
    rw [List.length_map] at this
    have e : ([44] : List UInt8).length = 1 := rfl
    rw [e] at this
    omega
  rw [hT]
  have HJ := Lib.hid hJ
  have HP := Lib.hid hP
  have HF := Lib.hid hf
  have HL := Lib.hid hl
  have hpos : 0 < l.length := List.length_pos_iff.2 hn
  have hzb : ((l.length : Int) == 0) = false := by rw [beq_eq_false_iff_ne]; omega
  obtain ⟨a, cap, rfl, -, -⟩ := ints_open hf
  clear hP hf hJ hT hn hl
  go_enter Tryz.func71, Tryz.ntmps71
  go_wp2
  go_loopg [3, 11] l.length (fun gg s3 s11 wr => ∃ k : Nat, k ≤ l.length ∧ l.length - k ≤ gg ∧ s11 = .int .i64 k ∧ Hid (Grew w wr) ∧ Hid (OwnAt w.heap.size 9 1 encS wr s3 ((l.take k).map Lib.itoa)))
  case atStart => exact ⟨0, by omega, by omega, rfl, Lib.hid (Grew.refl _), Lib.hid (OwnAt.nil _)⟩
  case round =>
    obtain ⟨k, hk, hgg, rfl, HG, HO⟩ := hrel
    rename World => wa
    by_cases hlt : k < l.length
    · obtain ⟨a', cap', e, -, hx⟩ := ints_open (HF.out.grew HG.out)
      cases e
      obtain ⟨b, off, rfl, p0, c0⟩ := hx k hlt
      have HT := Lib.hid (map_take_snoc Lib.itoa l k hlt)
      have hln : ((l.take k).map Lib.itoa).length = k := by rw [List.length_map, List.length_take]; omega
      have hnx := HL.out _ (List.getElem_mem hlt)
      clear hx
      generalize l[k] = x at *
      have hi8 := Li.itoa_len8 hnx
      have HI := Lib.hid fun W (q : Grew w W) => itoa_any x (num_range hnx) W (HP.out.grew q)
      clear hnx
      generalize (l.take k).map Lib.itoa = xs at *
      generalize Lib.itoa x = ix at *
      go_wp2_with (first
        | (go_at_call 33; refine (HI.out _ (HG.out.trans (by repeat (first | with_reducible exact Grew.refl _ | apply Grew.more | apply Grew.alloc | apply Grew.drew | apply Grew.drewN)))).mono ?_; rintro e w1 ⟨rfl, R1, n1, rfl⟩)
        | (at_builtin; go_loud (refine wpList_ownK (w0 := w) rfl (.tmp 15) (.tmp 18) 50 _ _ _ _ [ix] rfl Tryz.underlying50 infoStr rfl (by decide) encS_len encS_one rfl (OwnAt.grew HO.out (by repeat (first | with_reducible exact Grew.refl _ | apply Grew.more | apply Grew.alloc | apply Grew.drew | apply Grew.drewN))) (HG.out.trans (by repeat (first | with_reducible exact Grew.refl _ | apply Grew.more | apply Grew.alloc | apply Grew.drew | apply Grew.drewN))) rfl (str_at _ _ _ _ _ rfl rfl (by simp [go_sem])) (by simp; omega) (by decide) (by simp) ?_); intro v7 W7 hA; (have HA7 := Lib.hid hA); clear hA))
      go_roundg (l.length - (k + 1))
      case measure => omega
      case rel => exact ⟨k + 1, by omega, by omega, by go_num, Lib.hid HA7.out.1, Lib.hid (by rw [HT.out]; exact HA7.out.2.1)⟩
    · obtain rfl : k = l.length := by omega
      have ho := HO.out
      rw [List.take_length] at ho
      have hlm : (l.map Lib.itoa).length ≤ 1000 := by rw [List.length_map]; omega
      have HO2 := Lib.hid ho
      clear ho HO
      go_wp2_with (go_at_call 14; refine (join_any _ (l.map Lib.itoa) [44] _ _ (HO2.out.grew (by repeat (first | with_reducible exact Grew.refl _ | apply Grew.more | apply Grew.alloc | apply Grew.drew | apply Grew.drewN))) hlm HJ.out).mono ?_; rintro e w1 ⟨rfl, R3, n3, rfl⟩)
      go_ret
      exact ⟨rfl, HG.out.trans (by repeat (first | with_reducible exact Grew.refl _ | apply Grew.more | apply Grew.alloc | apply Grew.drew | apply Grew.drewN))⟩

/-- strings.Split, by lists -/
theorem split_any (s sep : List UInt8) (hs : s.length ≤ 900000) (h1 : sep ≠ []) (w : World) (hM : CellM w) :
    Calls Tryz.prog 22 #[.string ⟨s.toArray⟩, .string ⟨sep.toArray⟩] w (fun e w' => ∃ v, e = .returned v ∧ OwnAt w.heap.size 9 1 encS w' v (Lib.split s sep) ∧ Grew w w') := by
  have hsp : (1 : Nat) ≤ (⟨sep.toArray⟩ : ByteArray).size := by
    show 1 ≤ sep.length
    exact List.length_pos_iff.2 h1
  have hd := Lib.splitB_data ⟨sep.toArray⟩ 0 (Lib.countB ⟨s.toArray⟩ ⟨sep.toArray⟩) ⟨s.toArray⟩
  have hlen := Lib.splitB_all ⟨sep.toArray⟩ hsp 0 _ ⟨s.toArray⟩ rfl
  have hle := Lib.countB_le ⟨sep.toArray⟩ hsp s.length ⟨s.toArray⟩ (Nat.le_refl _)
  have e : Lib.split s sep = Lib.splitK sep 0 (Lib.countB ⟨s.toArray⟩ ⟨sep.toArray⟩) s := rfl
  have hx : Lib.splitB ⟨sep.toArray⟩ 0 (Lib.countB ⟨s.toArray⟩ ⟨sep.toArray⟩) ⟨s.toArray⟩ = (Lib.split s sep).map fun l => (⟨l.toArray⟩ : ByteArray) := by
    rw [e]
    have hd' : List.map (fun x => x.data.toList) (Lib.splitB ⟨sep.toArray⟩ 0 (Lib.countB ⟨s.toArray⟩ ⟨sep.toArray⟩) ⟨s.toArray⟩) = Lib.splitK sep 0 (Lib.countB ⟨s.toArray⟩ ⟨sep.toArray⟩) s := hd
    rw [← hd', List.map_map]
    exact (List.map_id _).symm.trans (List.map_congr_left fun x _ => rfl)
  refine split_at _ _ _ hx (by show s.length ≤ _; omega) hsp ?_ w hM
  have := congrArg List.length hx
  rw [List.length_map, hlen] at this
  have hz : (⟨s.toArray⟩ : ByteArray).size = s.length := rfl
  omega
theorem split_len (s sep : List UInt8) (h1 : sep ≠ []) : 1 ≤ (Lib.split s sep).length ∧ (Lib.split s sep).length ≤ s.length + 1 := by
  have hsp : (1 : Nat) ≤ (⟨sep.toArray⟩ : ByteArray).size := by
    show 1 ≤ sep.length
    exact List.length_pos_iff.2 h1
  have hd := congrArg List.length (Lib.splitB_data ⟨sep.toArray⟩ 0 (Lib.countB ⟨s.toArray⟩ ⟨sep.toArray⟩) ⟨s.toArray⟩)
  have hlen := Lib.splitB_all ⟨sep.toArray⟩ hsp 0 _ ⟨s.toArray⟩ rfl
  have hle := Lib.countB_le ⟨sep.toArray⟩ hsp s.length ⟨s.toArray⟩ (Nat.le_refl _)
  have e : (Lib.split s sep).length = (Lib.splitK sep 0 (Lib.countB ⟨s.toArray⟩ ⟨sep.toArray⟩) s).length := rfl
  have hz : (⟨s.toArray⟩ : ByteArray).size = s.length := rfl
  rw [List.length_map, hlen] at hd
  have hd' : Lib.countB ⟨s.toArray⟩ ⟨sep.toArray⟩ + 1 = (Lib.splitK sep 0 (Lib.countB ⟨s.toArray⟩ ⟨sep.toArray⟩) s).length := hd
  omega
theorem splitK_sub (sep : List UInt8) : ∀ (k : Nat) (s : List UInt8), ∀ x ∈ Lib.splitK sep 0 k s, x.length ≤ s.length
  | 0, s, x, hx => by
    simp [Lib.splitK] at hx
    subst hx
    exact Nat.le_refl _
  | k + 1, s, x, hx => by
    unfold Lib.splitK at hx
    split at hx
    · simp at hx
      subst hx
      exact Nat.le_refl _
    · rcases List.mem_cons.1 hx with rfl | hx
      · rw [List.length_take]; omega
      · have := splitK_sub sep k _ x hx
        rw [List.length_drop] at this
        omega
theorem split_sub (s sep : List UInt8) : ∀ x ∈ Lib.split s sep, x.length ≤ s.length := splitK_sub sep _ s
set_option maxHeartbeats 8000000 in
theorem numbers_any (s : List UInt8) (hs : s.length ≤ 100000) (w : World) (hV : Env27 w) : Calls Tryz.prog 65 #[.string ⟨s.toArray⟩] w (fun e w' => ∃ v, e = .returned v ∧ OwnAt w.heap.size 3 1 encN w' v (Li.numsP s) ∧ Grew w w') := by
  by_cases hd : s = [45]
  · subst hd
    clear hV hs
    show Calls Tryz.prog _ #[.string ⟨#[45]⟩] w _
    go_enter Tryz.func65, Tryz.ntmps65
    go_wp2
    go_ret
    exact ⟨_, rfl, OwnAt.nil _, by repeat (first | with_reducible exact Grew.refl _ | apply Grew.more | apply Grew.alloc | apply Grew.drew | apply Grew.drewN)⟩
  have hT : Li.numsP s = (Lib.split s [44]).map Co.atoiVal := by unfold Li.numsP; exact if_neg hd
  rw [hT]
  have hne : (s == [45]) = false := by simpa using hd
  obtain ⟨hl1, hl2⟩ := split_len s [44] (by decide)
  have HSUB := Lib.hid (split_sub s [44])
  have HS := Lib.hid fun W (q : Grew w W) => split_any s [44] (by omega) (by decide) W (hV.m.grew q)
  have HE := Lib.hid fun W (q : Grew w W) => hV.e.grew q
  clear hV hT hd
  generalize Lib.split s [44] = xs at *
  have hxs : xs ≠ [] := by intro e; subst e; simp at hl1
  go_enter Tryz.func65, Tryz.ntmps65
  go_wp2_with (go_at_call 22; refine (HS.out _ (by repeat (first | with_reducible exact Grew.refl _ | apply Grew.more | apply Grew.alloc | apply Grew.drew | apply Grew.drewN))).mono ?_; rintro e w1 ⟨v1, rfl, hv1, R1, n1, rfl⟩; obtain ⟨bs, cs, rfl, hbs, hcs⟩ := strs_open hv1 hxs; (have HCS := Lib.hid hcs); clear hv1 hcs)
  have hgw : Hid (Grew w (w.more R1 n1)) := Lib.hid (by repeat (first | with_reducible exact Grew.refl _ | apply Grew.more | apply Grew.alloc | apply Grew.drew | apply Grew.drewN))
  generalize w.more R1 n1 = w1 at *
  go_loopg [3, 13] xs.length (fun gg s3 s13 wr => ∃ k : Nat, k ≤ xs.length ∧ xs.length - k ≤ gg ∧ s13 = .int .i64 k ∧ Hid (Grew w1 wr) ∧ Hid (OwnAt w1.heap.size 3 1 encN wr s3 ((xs.take k).map Co.atoiVal)))
  case atStart => exact ⟨0, by omega, by omega, rfl, Lib.hid (Grew.refl _), Lib.hid (OwnAt.nil _)⟩
  case round =>
    obtain ⟨k, hk, hgg, rfl, HG, HO⟩ := hrel
    rename World => wa
    by_cases hlt : k < xs.length
    · have s0 := cell_grew (HCS.out k hlt) HG.out
      have p0 := Pre.ofCell s0
      have hsl := HSUB.out _ (List.getElem_mem hlt)
      have HT := Lib.hid (map_take_snoc Co.atoiVal xs k hlt)
      have hln : ((xs.take k).map Co.atoiVal).length = k := by rw [List.length_map, List.length_take]; omega
      generalize xs[k] = x at *
      have HA := Lib.hid fun W (q : Grew w W) => atoiL_any x (by omega) W (HE.out W q)
      have hr := Co.atoiVal_range x
      generalize (xs.take k).map Co.atoiVal = ys at *
      generalize Co.atoiVal x = y at *
      go_wp2_with (first
        | (go_at_call 62; refine (HA.out _ ((hgw.out.trans HG.out).trans (by repeat (first | with_reducible exact Grew.refl _ | apply Grew.more | apply Grew.alloc | apply Grew.drew | apply Grew.drewN)))).mono ?_; rintro e w2 ⟨v2, rfl, R2, n2, rfl⟩)
        | (at_builtin; go_loud (refine wpList_ownK (w0 := w1) rfl (.tmp 22) (.tmp 24) 38 _ _ _ _ [y] rfl Tryz.underlying38 infoI_1 rfl (by decide) encN_len encN_1 rfl (OwnAt.grew HO.out (by repeat (first | with_reducible exact Grew.refl _ | apply Grew.more | apply Grew.alloc | apply Grew.drew | apply Grew.drewN))) (HG.out.trans (by repeat (first | with_reducible exact Grew.refl _ | apply Grew.more | apply Grew.alloc | apply Grew.drew | apply Grew.drewN))) rfl (int_at1 _ _ _ _ rfl (by simp [go_sem])) (by simp; omega) (by decide) (by simp) ?_); intro v7 W7 hA; (have HA7 := Lib.hid hA); clear hA))
      go_roundg (xs.length - (k + 1))
      case measure => omega
      case rel => exact ⟨k + 1, by omega, by omega, by go_num, Lib.hid HA7.out.1, Lib.hid (by rw [HT.out]; exact HA7.out.2.1)⟩
    · obtain rfl : k = xs.length := by omega
      have ho := HO.out
      rw [List.take_length] at ho
      have HO2 := Lib.hid ho
      clear ho HO
      obtain ⟨av, cv, rfl⟩ := (OwnAt.rows HO2.out encN_len).len
      go_wp2
      go_ret
      exact ⟨_, rfl, OwnAt.low HO2.out hgw.out.below.size, hgw.out.trans HG.out⟩
end Go.Proofs.YtmnllmbchpebbaaGreatDoor

/-! lines: routes and places; fits. -/
namespace Go.Proofs.YtmnllmbchpebbaaGreatDoor
set_option linter.unusedSimpArgs false
set_option linter.unusedVariables false
open Go.RowKit Ga
set_option maxRecDepth 100000

theorem rt3_eq (r : List Int) : Li.rt3 r = rtB 3 r := by
  unfold Li.rt3 rtB
  simp
theorem rtx_eq (r : List Int) : Li.rtx r = rtxt r := rfl
/-- the array of a route that is read, letter by letter -/
def rk (l : List Int) (k : Nat) : Array Value := ((l.take k ++ List.replicate (8 - k) 0).map (Value.int .i64)).toArray
theorem rk_at (y0 y1 y2 y3 y4 y5 y6 y7 : Int) (k : Nat) (hk : k < 8) : (rk [y0, y1, y2, y3, y4, y5, y6, y7] k)[k]? = some (.int .i64 0) ∧ (rk [y0, y1, y2, y3, y4, y5, y6, y7] k).setIfInBounds k (.int .i64 ([y0, y1, y2, y3, y4, y5, y6, y7].getD k 0)) = rk [y0, y1, y2, y3, y4, y5, y6, y7] (k + 1) := by
  rcases (show k = 0 ∨ k = 1 ∨ k = 2 ∨ k = 3 ∨ k = 4 ∨ k = 5 ∨ k = 6 ∨ k = 7 by omega) with rfl | rfl | rfl | rfl | rfl | rfl | rfl | rfl <;> exact ⟨rfl, rfl⟩
theorem idx8b (b0 b1 b2 b3 b4 b5 b6 b7 : UInt8) (k : Nat) (hk : k < 8) (w : World) : (Instr.index 9 (.string ⟨#[b0, b1, b2, b3, b4, b5, b6, b7]⟩) (.int .i64 k)).run Tryz.prog w = .ok (.int .u8 ([b0, b1, b2, b3, b4, b5, b6, b7].getD k 0).toNat) w := by
  rcases (show k = 0 ∨ k = 1 ∨ k = 2 ∨ k = 3 ∨ k = 4 ∨ k = 5 ∨ k = 6 ∨ k = 7 by omega) with rfl | rfl | rfl | rfl | rfl | rfl | rfl | rfl <;> kernel_rfl
theorem getD8 (b0 b1 b2 b3 b4 b5 b6 b7 : UInt8) (k : Nat) (hk : k < 8) : (([b0, b1, b2, b3, b4, b5, b6, b7].getD k 0).toNat : Int) - 48 = ([b0, b1, b2, b3, b4, b5, b6, b7].map Li.rbP).getD k 0 := by
  rcases (show k = 0 ∨ k = 1 ∨ k = 2 ∨ k = 3 ∨ k = 4 ∨ k = 5 ∨ k = 6 ∨ k = 7 by omega) with rfl | rfl | rfl | rfl | rfl | rfl | rfl | rfl <;> rfl
abbrev ag8 (l : List Int) : Value := .agg #[.int .i64 (l.getD 0 0), .int .i64 (l.getD 1 0), .int .i64 (l.getD 2 0), .int .i64 (l.getD 3 0), .int .i64 (l.getD 4 0), .int .i64 (l.getD 5 0), .int .i64 (l.getD 6 0), .int .i64 (l.getD 7 0)]
def routeC (s : List UInt8) : Int := if s.length = 8 ∧ Li.rt3 (s.map Li.rbP) = true then 0 else 4
set_option maxHeartbeats 16000000 in
theorem routeParse8 (b0 b1 b2 b3 b4 b5 b6 b7 : UInt8) (w : World) : Calls Tryz.prog 106 #[.string ⟨#[b0, b1, b2, b3, b4, b5, b6, b7]⟩] w (Gives (.tuple #[ag8 (Li.routeP [b0, b1, b2, b3, b4, b5, b6, b7]), .int .i64 (routeC [b0, b1, b2, b3, b4, b5, b6, b7])]) w) := by
  have HIX := Lib.hid (idx8b b0 b1 b2 b3 b4 b5 b6 b7)
  have HGD := Lib.hid (getD8 b0 b1 b2 b3 b4 b5 b6 b7)
  have hR : Li.routeP [b0, b1, b2, b3, b4, b5, b6, b7] = if rtB 3 ([b0, b1, b2, b3, b4, b5, b6, b7].map Li.rbP) = true then [b0, b1, b2, b3, b4, b5, b6, b7].map Li.rbP else Gr.zeros := by
    unfold Li.routeP
    rw [rt3_eq]
    simp
  have hC : routeC [b0, b1, b2, b3, b4, b5, b6, b7] = if rtB 3 ([b0, b1, b2, b3, b4, b5, b6, b7].map Li.rbP) = true then 0 else 4 := by
    unfold routeC
    rw [rt3_eq]
    simp
  rw [hR, hC]
  clear hR hC
  have hy : [b0, b1, b2, b3, b4, b5, b6, b7].map Li.rbP = [Li.rbP b0, Li.rbP b1, Li.rbP b2, Li.rbP b3, Li.rbP b4, Li.rbP b5, Li.rbP b6, Li.rbP b7] := rfl
  rw [hy] at HGD ⊢
  clear hy
  generalize Li.rbP b0 = y0 at *
  generalize Li.rbP b1 = y1 at *
  generalize Li.rbP b2 = y2 at *
  generalize Li.rbP b3 = y3 at *
  generalize Li.rbP b4 = y4 at *
  generalize Li.rbP b5 = y5 at *
  generalize Li.rbP b6 = y6 at *
  generalize Li.rbP b7 = y7 at *
  have HRK := Lib.hid (rk_at y0 y1 y2 y3 y4 y5 y6 y7)
  have hrt := fun W => routeRight_any 3 y0 y1 y2 y3 y4 y5 y6 y7 W
  cases hq : rtB 3 [y0, y1, y2, y3, y4, y5, y6, y7]
  case' false => rw [if_neg (by simp), if_neg (by simp)]
  case' true => rw [if_pos rfl, if_pos rfl]
  all_goals
    simp only [hq] at hrt
    have HRT := Lib.hid hrt
    clear hrt hq
    go_enter Tryz.func106, Tryz.ntmps106
    go_wp2
    go_loopg [10] 8 (fun gg s10 wr => ∃ k : Nat, k ≤ 8 ∧ 8 - k ≤ gg ∧ s10 = .int .i64 k ∧ Hid (Grew w wr) ∧ Hid (wr.heap[w.heap.size]? = some (.cells z8 40)) ∧ Hid (wr.heap[w.heap.size + 1]? = some (.cells (rk [y0, y1, y2, y3, y4, y5, y6, y7] k) 40)))
    case atStart => exact ⟨0, by omega, by omega, rfl, Lib.hid (by repeat (first | with_reducible exact Grew.refl _ | apply Grew.more | apply Grew.alloc | apply Grew.drew | apply Grew.drewN)), Lib.hid (heap_alloc' (heap_new_at w _ _ rfl) _), Lib.hid (heap_new_at _ _ _ (by simp [World.size_alloc]))⟩
    case round =>
      obtain ⟨k, hk, hgg, rfl, HG, HA, HB⟩ := hrel
      rename World => wa
      by_cases hlt : k < 8
      · have hi := HIX.out k hlt
        obtain ⟨k1, k2⟩ := HRK.out k hlt
        have hgd := HGD.out k hlt
        have hc := (cell_of (o := k) HB.out).trans k1
        have hf := frozen_of (o := k) HB.out
        have hp := Pre.mk (heap_lt HB.out)
        have hb8 : ([b0, b1, b2, b3, b4, b5, b6, b7].getD k 0).toNat < 256 := UInt8.toNat_lt _
        have K2 := Lib.hid k2
        have HGD2 := Lib.hid hgd
        clear k1 k2 hgd
        generalize ([b0, b1, b2, b3, b4, b5, b6, b7].getD k 0).toNat = bv at *
        go_wp2
        go_roundg (8 - (k + 1))
        case measure => omega
        case rel =>
          refine ⟨k + 1, by omega, by omega, by go_num, Lib.hid (Grew.set HG.out (by omega) _), Lib.hid ?_, Lib.hid ?_⟩
          · rw [set_other (by omega)]
            exact HA.out
          · rw [set_self HB.out, ← K2.out, ← HGD2.out]
            try rfl
      · obtain rfl : k = 8 := by omega
        have a0 := cell_of (o := 0) HA.out
        have a1 := cell_of (o := 1) HA.out
        have a2 := cell_of (o := 2) HA.out
        have a3 := cell_of (o := 3) HA.out
        have a4 := cell_of (o := 4) HA.out
        have a5 := cell_of (o := 5) HA.out
        have a6 := cell_of (o := 6) HA.out
        have a7 := cell_of (o := 7) HA.out
        have b0 := cell_of (o := 0) HB.out
        have b1 := cell_of (o := 1) HB.out
        have b2 := cell_of (o := 2) HB.out
        have b3 := cell_of (o := 3) HB.out
        have b4 := cell_of (o := 4) HB.out
        have b5 := cell_of (o := 5) HB.out
        have b6 := cell_of (o := 6) HB.out
        have b7 := cell_of (o := 7) HB.out
        simp [z8] at a0 a1 a2 a3 a4 a5 a6 a7
        simp [rk] at b0 b1 b2 b3 b4 b5 b6 b7
        have f0 := frozen_of (o := 0) HA.out
        have f1 := frozen_of (o := 1) HA.out
        have f2 := frozen_of (o := 2) HA.out
        have f3 := frozen_of (o := 3) HA.out
        have f4 := frozen_of (o := 4) HA.out
        have f5 := frozen_of (o := 5) HA.out
        have f6 := frozen_of (o := 6) HA.out
        have f7 := frozen_of (o := 7) HA.out
        have pa := Pre.mk (heap_lt HA.out)
        have pb := Pre.mk (heap_lt HB.out)
        go_wp2_with (go_at_call 142; refine (HRT.out _).mono ?_; rintro e w1 ⟨rfl, R1, n1, rfl⟩)
        refine bodyPost_ret (v := .tuple #[_, _]) (by simp [results, Tryz.results106, go_sem, pa, a0, a1, a2, a3, a4, a5, a6, a7]; try decide) rfl ⟨rfl, ?_⟩
        repeat (first | with_reducible exact HG.out | with_reducible apply Grew.more | with_reducible apply Grew.alloc | refine Grew.set ?_ (by omega) _)
theorem routeP_len {s : List UInt8} (h : s.length ≠ 8) : Li.routeP s = Gr.zeros := by unfold Li.routeP; rw [if_neg (fun q => h q.1)]
set_option maxHeartbeats 8000000 in
theorem routeParse_any (s : List UInt8) (hs : s.length ≤ 1000000) (w : World) : Calls Tryz.prog 106 #[.string ⟨s.toArray⟩] w (Gives (.tuple #[ag8 (Li.routeP s), .int .i64 (routeC s)]) w) := by
  by_cases h8 : s.length = 8
  · match s, h8 with
    | [b0, b1, b2, b3, b4, b5, b6, b7], _ => exact routeParse8 b0 b1 b2 b3 b4 b5 b6 b7 w
  · have hC : routeC s = 4 := by unfold routeC; rw [if_neg (fun q => h8 q.1)]
    rw [routeP_len h8, hC]
    clear hC
    have h8b : ¬ ((s.length : Int) = 8) := by omega
    go_enter Tryz.func106, Tryz.ntmps106
    go_wp2
    exact bodyPost_ret (v := .tuple #[_, _]) (by simp [results, Tryz.results106, go_sem]; try decide) rfl ⟨rfl, by repeat (first | with_reducible exact Grew.refl _ | apply Grew.more | apply Grew.alloc | apply Grew.drew | apply Grew.drewN)⟩
theorem routeP_cases (s : List UInt8) : ∃ x0 x1 x2 x3 x4 x5 x6 x7 : Int, Li.routeP s = [x0, x1, x2, x3, x4, x5, x6, x7] := by
  have h8 : (Li.routeP s).length = 8 := by
    unfold Li.routeP
    split
    · rename_i h; simpa using h.1
    · rfl
  match h : Li.routeP s, h8 with
  | [x0, x1, x2, x3, x4, x5, x6, x7], _ => exact ⟨_, _, _, _, _, _, _, _, rfl⟩
set_option maxHeartbeats 8000000 in
/-- lines.placed: par and route are read of two words -/
theorem placed_any (id kd par r0 r1 r2 r3 r4 r5 r6 r7 : Int) (af ap : Option Addr) (nf cf np cp : Nat) (p r : List UInt8) (hp : p.length ≤ 100000) (hr : r.length ≤ 100000) (w : World) (hE : Errs w) : ∃ x0 x1 x2 x3 x4 x5 x6 x7 : Int, Li.routeP r = [x0, x1, x2, x3, x4, x5, x6, x7] ∧ Calls Tryz.prog 64 #[.agg #[.int .i64 id, .int .i64 kd, .slice af nf cf, .slice ap np cp, .int .i64 par, .int .i64 r0, .int .i64 r1, .int .i64 r2, .int .i64 r3, .int .i64 r4, .int .i64 r5, .int .i64 r6, .int .i64 r7], .string ⟨p.toArray⟩, .string ⟨r.toArray⟩] w
    (Gives (.agg #[.int .i64 id, .int .i64 kd, .slice af nf cf, .slice ap np cp, .int .i64 (Co.atoiVal p), .int .i64 x0, .int .i64 x1, .int .i64 x2, .int .i64 x3, .int .i64 x4, .int .i64 x5, .int .i64 x6, .int .i64 x7]) w) := by
  obtain ⟨x0, x1, x2, x3, x4, x5, x6, x7, hx⟩ := routeP_cases r
  refine ⟨x0, x1, x2, x3, x4, x5, x6, x7, hx, ?_⟩
  have HA := Lib.hid fun W (q : Grew w W) => atoiL_any p (by omega) W (hE.grew q)
  have HR := Lib.hid (routeParse_any r (by omega))
  rw [hx] at HR
  clear hE hx
  generalize Co.atoiVal p = pp at *
  generalize routeC r = rc at *
  go_enter Tryz.func64, Tryz.ntmps64
  go_wp2_with (first
    | (go_at_call 62; refine (HA.out _ (by repeat (first | with_reducible exact Grew.refl _ | apply Grew.more | apply Grew.alloc | apply Grew.drew | apply Grew.drewN))).mono ?_; rintro e w1 ⟨v1, rfl, R1, n1, rfl⟩)
    | (go_at_call 106; refine (HR.out _).mono ?_; rintro e w1 ⟨rfl, R2, n2, rfl⟩))
  refine bodyPost_ret (v := .agg #[.int .i64 id, .int .i64 kd, .slice af nf cf, .slice ap np cp, .int .i64 pp, .int .i64 x0, .int .i64 x1, .int .i64 x2, .int .i64 x3, .int .i64 x4, .int .i64 x5, .int .i64 x6, .int .i64 x7]) (by simp [results, Tryz.results64, go_sem]) rfl ⟨rfl, ?_⟩
  repeat (first | with_reducible exact Grew.refl _ | apply Grew.more | apply Grew.alloc | apply Grew.drew | apply Grew.drewN)
end Go.Proofs.YtmnllmbchpebbaaGreatDoor

/-! lines: fits, place, Node. -/
namespace Go.Proofs.YtmnllmbchpebbaaGreatDoor
set_option linter.unusedSimpArgs false
set_option linter.unusedVariables false
open Go.RowKit Ga
set_option maxRecDepth 100000

/-- route.Text of any route -/
theorem routeText_no (r0 r1 r2 r3 r4 r5 r6 r7 : Int) (w : World) (hr : rtB 3 [r0, r1, r2, r3, r4, r5, r6, r7] = false) : Calls Tryz.prog 107 #[.agg #[.int .i64 r0, .int .i64 r1, .int .i64 r2, .int .i64 r3, .int .i64 r4, .int .i64 r5, .int .i64 r6, .int .i64 r7]] w (Gives (str []) w) := by
  have hrt := fun W => routeRight_any 3 r0 r1 r2 r3 r4 r5 r6 r7 W
  simp only [hr] at hrt
  have HRT := Lib.hid hrt
  clear hr hrt
  go_enter Tryz.func107, Tryz.ntmps107
  go_wp2_with (go_at_call 142; refine (HRT.out _).mono ?_; rintro e w1 ⟨rfl, R1, n1, rfl⟩)
  go_ret
  exact ⟨rfl, by repeat (first | with_reducible exact Grew.refl _ | apply Grew.more | apply Grew.alloc | apply Grew.drew | apply Grew.drewN)⟩
theorem rtx_len8 (r0 r1 r2 r3 r4 r5 r6 r7 : Int) : (Li.rtx [r0, r1, r2, r3, r4, r5, r6, r7]).length = 8 := rfl
set_option maxHeartbeats 16000000 in
theorem fits_any (c : NdC) (n : Gr.Nd) (w : World) (hn : NodeIs w c n) : Calls Tryz.prog 66 #[.agg #[.int .i64 c.id, .int .i64 c.kind, .slice c.af c.nf c.cf, .slice c.ap c.np c.cp, .int .i64 c.par, .int .i64 c.r0, .int .i64 c.r1, .int .i64 c.r2, .int .i64 c.r3, .int .i64 c.r4, .int .i64 c.r5, .int .i64 c.r6, .int .i64 c.r7]] w (Gives (.bool (Li.fitsN n)) w) := by
  obtain ⟨a1, c1, e1, hm1, -⟩ := ints_open hn.f
  have hF : Li.fitsN n = ([c.id, c.par].all Li.num && (n.frm.all Li.num && (decide (n.frm.length ≤ 60) && (rtB 3 [c.r0, c.r1, c.r2, c.r3, c.r4, c.r5, c.r6, c.r7] && Co.fitsI n.prog)))) := by
    unfold Li.fitsN
    rw [hn.id, hn.par, hn.route, rt3_eq]
    simp [Bool.and_assoc]
  rw [hF]
  clear hF
  have HN1 := Lib.hid fun W (q : Grew w W) => num_any _ n.frm W (hn.f.grew q)
  have HN2 := Lib.hid fun W b (hb : b = W.heap.size) => num_any _ [c.id, c.par] _ (ints_two W c.id c.par b hb)
  have HC := Lib.hid fun W (q : Grew w W) => codeFits_any _ n.prog W (hn.p.grew q)
  obtain ⟨id, kd, af, nf, cf, ap, np, cp, par, r0, r1, r2, r3, r4, r5, r6, r7⟩ := c
  cases e1
  clear hn
  generalize Co.fitsI n.prog = q5 at *
  generalize n.frm.all Li.num = q2 at *
  simp only at *
  generalize [id, par].all Li.num = q1 at *
  cases hq4 : rtB 3 [r0, r1, r2, r3, r4, r5, r6, r7]
  all_goals
    first
      | have HT := Lib.hid fun W => routeText_no r0 r1 r2 r3 r4 r5 r6 r7 W hq4
      | (have HT := Lib.hid fun W => routeText_any r0 r1 r2 r3 r4 r5 r6 r7 W hq4
         have hl8 : (rtxt [r0, r1, r2, r3, r4, r5, r6, r7]).isEmpty = false := rfl
         generalize rtxt [r0, r1, r2, r3, r4, r5, r6, r7] = rtt at *)
    clear hq4
    go_enter Tryz.func66, Tryz.ntmps66
    go_wp2_with fail
    refine (HN2.out _ _ (by simp [go_sem])).mono ?_
    rintro e w1 ⟨rfl, R1, n1, rfl⟩
    go_wp2_with (first
      | (go_at_call 30; refine (HN1.out _ (by repeat (first | with_reducible exact Grew.refl _ | apply Grew.more | apply Grew.alloc | apply Grew.drew | apply Grew.drewN))).mono ?_; rintro e w1 ⟨rfl, R2, n2, rfl⟩)
      | (go_at_call 107; refine (HT.out _).mono ?_; rintro e w1 ⟨rfl, R3, n3, rfl⟩)
      | (go_at_call 108; refine (HC.out _ (by repeat (first | with_reducible exact Grew.refl _ | apply Grew.more | apply Grew.alloc | apply Grew.drew | apply Grew.drewN))).mono ?_; rintro e w1 ⟨rfl, R4, n4, rfl⟩))
    all_goals
      go_ret
      exact ⟨ret_bool (by grind), by repeat (first | with_reducible exact Grew.refl _ | apply Grew.more | apply Grew.alloc | apply Grew.drew | apply Grew.drewN)⟩
set_option maxHeartbeats 8000000 in
theorem place_any (id kd par r0 r1 r2 r3 r4 r5 r6 r7 : Int) (af ap : Option Addr) (nf cf np cp : Nat) (w : World) (hP : Pow w) (hp : Li.num par = true) (hr : Li.rt3 [r0, r1, r2, r3, r4, r5, r6, r7] = true) : Calls Tryz.prog 70 #[.agg #[.int .i64 id, .int .i64 kd, .slice af nf cf, .slice ap np cp, .int .i64 par, .int .i64 r0, .int .i64 r1, .int .i64 r2, .int .i64 r3, .int .i64 r4, .int .i64 r5, .int .i64 r6, .int .i64 r7]] w (Gives (str (Lib.itoa par ++ 32 :: Li.rtx [r0, r1, r2, r3, r4, r5, r6, r7])) w) := by
  have HI := Lib.hid fun W (q : Grew w W) => itoa_any par (num_range hp) W (hP.grew q)
  have HT := Lib.hid fun W => routeText_any r0 r1 r2 r3 r4 r5 r6 r7 W (by rw [← rt3_eq]; exact hr)
  have l1 := Li.itoa_len8 hp
  have l2 : (rtxt [r0, r1, r2, r3, r4, r5, r6, r7]).length = 8 := rfl
  rw [rtx_eq]
  clear hP hp hr
  generalize Lib.itoa par = it at *
  generalize rtxt [r0, r1, r2, r3, r4, r5, r6, r7] = rt at *
  go_enter Tryz.func70, Tryz.ntmps70
  go_wp2_with fail
  refine wp_region_seq 9 Tryz.mixed (by kernel_rfl) (by kernel_rfl) ?_
  iterate 2
    apply Seq.val
    focus
      rintro w1 u ⟨R1, n1, rfl⟩ hF
      simp [moreFacts, Fact.more, Oper.deps, Region.binds, List.filter_cons, World.more_drew] at hF
      simp [putFacts, Oper.deps, Region.binds, List.filter_cons, Region.dstOf, Fact.at, Act.put, World.more_drew]
      go_wp2
      exact ⟨by repeat (first | with_reducible exact Grew.refl _ | apply Grew.more | apply Grew.alloc | apply Grew.drew | apply Grew.drewN), rfl, _, _, rfl, rfl, rfl⟩
  apply Seq.val
  focus
    rintro w1 u ⟨R1, n1, rfl⟩ hF
    simp [moreFacts, Fact.more, Oper.deps, Region.binds, List.filter_cons, World.more_drew] at hF
    simp [putFacts, Oper.deps, Region.binds, List.filter_cons, Region.dstOf, Fact.at, Act.put, World.more_drew]
    go_wp2_with (first
      | (go_at_call 33; refine (HI.out _ (by repeat (first | with_reducible exact Grew.refl _ | apply Grew.more | apply Grew.alloc | apply Grew.drew | apply Grew.drewN))).mono ?_; rintro e w1 ⟨rfl, R1, n1, rfl⟩)
      )
    exact ⟨by repeat (first | with_reducible exact Grew.refl _ | apply Grew.more | apply Grew.alloc | apply Grew.drew | apply Grew.drewN), rfl, _, _, rfl, rfl, rfl⟩
  iterate 3
    apply Seq.val
    focus
      rintro w1 u ⟨R1, n1, rfl⟩ hF
      simp [moreFacts, Fact.more, Oper.deps, Region.binds, List.filter_cons, World.more_drew] at hF
      simp [putFacts, Oper.deps, Region.binds, List.filter_cons, Region.dstOf, Fact.at, Act.put, World.more_drew]
      go_wp2
      exact ⟨by repeat (first | with_reducible exact Grew.refl _ | apply Grew.more | apply Grew.alloc | apply Grew.drew | apply Grew.drewN), rfl, _, _, rfl, rfl, rfl⟩
  apply Seq.val
  focus
    rintro w1 u ⟨R1, n1, rfl⟩ hF
    simp [moreFacts, Fact.more, Oper.deps, Region.binds, List.filter_cons, World.more_drew] at hF
    simp [putFacts, Oper.deps, Region.binds, List.filter_cons, Region.dstOf, Fact.at, Act.put, World.more_drew]
    go_wp2_with (first
      | (go_at_call 107; refine (HT.out _).mono ?_; rintro e w1 ⟨rfl, R3, n3, rfl⟩)
      )
    exact ⟨by repeat (first | with_reducible exact Grew.refl _ | apply Grew.more | apply Grew.alloc | apply Grew.drew | apply Grew.drewN), rfl, _, _, rfl, rfl, rfl⟩
  iterate 2
    apply Seq.val
    focus
      rintro w1 u ⟨R1, n1, rfl⟩ hF
      simp [moreFacts, Fact.more, Oper.deps, Region.binds, List.filter_cons, World.more_drew] at hF
      simp [putFacts, Oper.deps, Region.binds, List.filter_cons, Region.dstOf, Fact.at, Act.put, World.more_drew]
      go_wp2
      exact ⟨by repeat (first | with_reducible exact Grew.refl _ | apply Grew.more | apply Grew.alloc | apply Grew.drew | apply Grew.drewN), rfl, _, _, rfl, rfl, rfl⟩
  rintro u w1 ⟨R1, n1, rfl⟩ hF
  clear hF
  simp [putFacts, Region.dstOf, Fact.at, Act.put, List.range_succ, World.more_drew]
  go_wp2
  go_ret
  exact ⟨by simp [str_cat], by repeat (first | with_reducible exact Grew.refl _ | apply Grew.more | apply Grew.alloc | apply Grew.drew | apply Grew.drewN)⟩
theorem listT_len {l : List Int} (hl : ∀ x ∈ l, Li.num x = true) (h60 : l.length ≤ 60) : (Li.listT l).length ≤ 600 := by
  unfold Li.listT
  split
  · simp
  · have := join_len (l.map Lib.itoa) [44] 8 fun x hx => by
      obtain ⟨n, hn2, rfl⟩ := List.mem_map.1 hx
      exact Li.itoa_len8 (hl n hn2)
    rw [List.length_map] at this
    have e : ([44] : List UInt8).length = 1 := rfl
    rw [e] at this
    omega
/-- what all nodes that fit have -/
structure FitN (n : Gr.Nd) : Prop where
  id : Li.num n.id = true
  par : Li.num n.par = true
  frm : ∀ f ∈ n.frm, Li.num f = true
  l60 : n.frm.length ≤ 60
  rt : Li.rt3 n.route = true
  pr : Co.fitsI n.prog = true
theorem fitN {n : Gr.Nd} (h : Li.fitsN n = true) : FitN n :=
  let ⟨a, b, c, d, e, f⟩ := Li.fitsN_iff.1 h
  ⟨a, b, c, d, e, f⟩
theorem textI_len400 {l : List Co.Ins} (h : Co.fitsI l = true) : (Co.textI l).length ≤ 400 := by
  obtain ⟨h1, h2⟩ := Co.fits_parts h
  have := Co.textI_len l h2
  omega
theorem textOut_fits {l : List Co.Ins} (h : Co.fitsI l = true) : Co.textOut l = Co.textI l := by unfold Co.textOut; exact if_pos h
set_option maxHeartbeats 32000000 in
theorem nodeText_any (c : NdC) (n : Gr.Nd) (w : World) (hP : Pow w) (hA : Asc w) (hn : NodeIs w c n) : Calls Tryz.prog 67 #[.agg #[.int .i64 c.id, .int .i64 c.kind, .slice c.af c.nf c.cf, .slice c.ap c.np c.cp, .int .i64 c.par, .int .i64 c.r0, .int .i64 c.r1, .int .i64 c.r2, .int .i64 c.r3, .int .i64 c.r4, .int .i64 c.r5, .int .i64 c.r6, .int .i64 c.r7]] w (Gives (str (Li.nodeT n)) w) := by
  have HF := Lib.hid fun W (q : Grew w W) => fits_any c n W (hn.grew q)
  cases hf : Li.fitsN n
  · have hT : Li.nodeT n = [] := by unfold Li.nodeT; rw [hf]; simp
    rw [hT]
    rw [hf] at HF
    obtain ⟨id, kd, af, nf, cf, ap, np, cp, par, r0, r1, r2, r3, r4, r5, r6, r7⟩ := c
    clear hn hP hA hT hf
    go_enter Tryz.func67, Tryz.ntmps67
    go_wp2_with (go_at_call 66; refine (HF.out _ (by repeat (first | with_reducible exact Grew.refl _ | apply Grew.more | apply Grew.alloc | apply Grew.drew | apply Grew.drewN))).mono ?_; rintro e w1 ⟨rfl, R1, n1, rfl⟩)
    go_ret
    exact ⟨rfl, by repeat (first | with_reducible exact Grew.refl _ | apply Grew.more | apply Grew.alloc | apply Grew.drew | apply Grew.drewN)⟩
  rw [hf] at HF
  have hN := fitN hf
  have hrt := hN.rt
  rw [hn.route] at hrt
  have hpar := hN.par
  rw [hn.par] at hpar
  have hid := hN.id
  rw [hn.id] at hid
  have HI := Lib.hid fun W (q : Grew w W) => itoa_any c.id (num_range hid) W (hP.grew q)
  have HL := Lib.hid fun W (q : Grew w W) => list_any c.vf n.frm W (hP.grew q) (hn.f.grew q) hN.frm hN.l60
  have HPL := Lib.hid fun W (q : Grew w W) => place_any c.id c.kind c.par c.r0 c.r1 c.r2 c.r3 c.r4 c.r5 c.r6 c.r7 c.af c.ap c.nf c.cf c.np c.cp W (hP.grew q) hpar hrt
  have HT := Lib.hid fun W (q : Grew w W) => codeText_any c.vp n.prog W (hn.p.grew q) (hP.grew q) (hA.grew q)
  rw [textOut_fits hN.pr] at HT
  have l1 := Li.itoa_len8 hid
  have l2 := listT_len hN.frm hN.l60
  have l3 := textI_len400 hN.pr
  have l60 := hN.l60
  have l24 := (Co.fits_parts hN.pr).1
  have l4 : (Lib.itoa c.par ++ 32 :: Li.rtx [c.r0, c.r1, c.r2, c.r3, c.r4, c.r5, c.r6, c.r7]).length ≤ 20 := by
    have := Li.itoa_len8 hpar
    have := rtx_len8 c.r0 c.r1 c.r2 c.r3 c.r4 c.r5 c.r6 c.r7
    simp only [List.length_append, List.length_cons]
    omega
  have hNT : Li.nodeT n = if n.kind = 0 ∧ n.frm = [] ∧ n.prog = [] then Lib.itoa c.id ++ 32 :: (Li.sSOURCE ++ 32 :: Li.placeT n)
    else if n.kind = 1 then Lib.itoa c.id ++ 32 :: (Li.sOP ++ 32 :: (Li.listT n.frm ++ 32 :: (Li.placeT n ++ (Li.behind ++ Co.textI n.prog))))
    else if n.kind = 2 ∧ n.prog = [] then Lib.itoa c.id ++ 32 :: (Li.sSINK ++ 32 :: (Li.listT n.frm ++ 32 :: Li.placeT n))
    else [] := by
      unfold Li.nodeT
      rw [if_pos hf, hn.id]
  have hPT : Li.placeT n = Lib.itoa c.par ++ 32 :: Li.rtx [c.r0, c.r1, c.r2, c.r3, c.r4, c.r5, c.r6, c.r7] := by
    unfold Li.placeT
    rw [hn.par, hn.route]
  rw [hPT, hn.kind] at hNT
  obtain ⟨a1, c1, e1, hm1, -⟩ := ints_open hn.f
  obtain ⟨a2, c2, e2, hm2, -⟩ := hn.p.open2
  obtain ⟨id, kd, af, nf, cf, ap, np, cp, par, r0, r1, r2, r3, r4, r5, r6, r7⟩ := c
  cases e1
  cases e2
  have hfl : n.frm = [] ↔ n.frm.length = 0 := List.length_eq_zero_iff.symm
  have hpl : n.prog = [] ↔ n.prog.length = 0 := List.length_eq_zero_iff.symm
  simp only [hfl, hpl] at hNT
  rw [hNT]
  clear hn hN hrt hpar hid hNT hPT hf hP hA hfl hpl
  simp only at *
  generalize Lib.itoa id = it at *
  generalize Li.listT n.frm = lt at *
  generalize Co.textI n.prog = ct at *
  generalize Lib.itoa par ++ 32 :: Li.rtx [r0, r1, r2, r3, r4, r5, r6, r7] = pt at *
  generalize n.frm.length = nf at *
  generalize n.prog.length = np at *
  rcases (show (kd = 0 ∧ nf = 0 ∧ np = 0) ∨ (kd = 0 ∧ ¬ (nf = 0 ∧ np = 0)) ∨ kd = 1 ∨ (kd = 2 ∧ np = 0) ∨ (kd = 2 ∧ np ≠ 0) ∨ (kd ≠ 0 ∧ kd ≠ 1 ∧ kd ≠ 2) by omega) with ⟨rfl, rfl, rfl⟩ | ⟨rfl, h1⟩ | rfl | ⟨rfl, rfl⟩ | ⟨rfl, h1⟩ | ⟨h1, h2, h3⟩
  · rw [if_pos (by simp)]
    go_enter Tryz.func67, Tryz.ntmps67
    go_wp2_with (first
      | (go_at_call 66; refine (HF.out _ (by repeat (first | with_reducible exact Grew.refl _ | apply Grew.more | apply Grew.alloc | apply Grew.drew | apply Grew.drewN))).mono ?_; rintro e w1 ⟨rfl, R1, n1, rfl⟩)
      | (go_at_call 33; refine (HI.out _ (by repeat (first | with_reducible exact Grew.refl _ | apply Grew.more | apply Grew.alloc | apply Grew.drew | apply Grew.drewN))).mono ?_; rintro e w1 ⟨rfl, R2, n2, rfl⟩)
      | (go_at_call 70; refine (HPL.out _ (by repeat (first | with_reducible exact Grew.refl _ | apply Grew.more | apply Grew.alloc | apply Grew.drew | apply Grew.drewN))).mono ?_; rintro e w1 ⟨rfl, R4, n4, rfl⟩))
    go_ret
    exact ⟨by simp [str_cat, Li.sSOURCE], by repeat (first | with_reducible exact Grew.refl _ | apply Grew.more | apply Grew.alloc | apply Grew.drew | apply Grew.drewN)⟩
  · rw [if_neg (by omega), if_neg (by omega), if_neg (by omega)]
    have h1b : ¬ ((nf : Int) + (np : Int) = 0) := by omega
    go_enter Tryz.func67, Tryz.ntmps67
    go_wp2_with (first
      | (go_at_call 66; refine (HF.out _ (by repeat (first | with_reducible exact Grew.refl _ | apply Grew.more | apply Grew.alloc | apply Grew.drew | apply Grew.drewN))).mono ?_; rintro e w1 ⟨rfl, R1, n1, rfl⟩)
      | (go_at_call 33; refine (HI.out _ (by repeat (first | with_reducible exact Grew.refl _ | apply Grew.more | apply Grew.alloc | apply Grew.drew | apply Grew.drewN))).mono ?_; rintro e w1 ⟨rfl, R2, n2, rfl⟩))
    go_ret
    exact ⟨rfl, by repeat (first | with_reducible exact Grew.refl _ | apply Grew.more | apply Grew.alloc | apply Grew.drew | apply Grew.drewN)⟩
  · rw [if_neg (by omega), if_pos rfl]
    go_enter Tryz.func67, Tryz.ntmps67
    go_wp2_with (first
      | (go_at_call 66; refine (HF.out _ (by repeat (first | with_reducible exact Grew.refl _ | apply Grew.more | apply Grew.alloc | apply Grew.drew | apply Grew.drewN))).mono ?_; rintro e w1 ⟨rfl, R1, n1, rfl⟩)
      | (go_at_call 33; refine (HI.out _ (by repeat (first | with_reducible exact Grew.refl _ | apply Grew.more | apply Grew.alloc | apply Grew.drew | apply Grew.drewN))).mono ?_; rintro e w1 ⟨rfl, R2, n2, rfl⟩)
      | fail)
    refine wp_region_seq 16 Tryz.mixed (by kernel_rfl) (by kernel_rfl) ?_
    iterate 4
      apply Seq.val
      focus
        rintro w1 u ⟨R1, n1, rfl⟩ hF
        simp [moreFacts, Fact.more, Oper.deps, Region.binds, List.filter_cons, World.more_drew] at hF
        simp [putFacts, Oper.deps, Region.binds, List.filter_cons, Region.dstOf, Fact.at, Act.put, World.more_drew]
        go_wp2
        exact ⟨by repeat (first | with_reducible exact Grew.refl _ | apply Grew.more | apply Grew.alloc | apply Grew.drew | apply Grew.drewN), rfl, _, _, rfl, rfl, rfl⟩
    apply Seq.val
    focus
      rintro w1 u ⟨R1, n1, rfl⟩ hF
      simp [moreFacts, Fact.more, Oper.deps, Region.binds, List.filter_cons, World.more_drew] at hF
      simp [putFacts, Oper.deps, Region.binds, List.filter_cons, Region.dstOf, Fact.at, Act.put, World.more_drew]
      go_wp2_with (first
        | (go_at_call 71; refine (HL.out _ (by repeat (first | with_reducible exact Grew.refl _ | apply Grew.more | apply Grew.alloc | apply Grew.drew | apply Grew.drewN))).mono ?_; rintro e w1 ⟨rfl, R3, n3, rfl⟩)
        )
      exact ⟨by repeat (first | with_reducible exact Grew.refl _ | apply Grew.more | apply Grew.alloc | apply Grew.drew | apply Grew.drewN), rfl, _, _, rfl, rfl, rfl⟩
    iterate 3
      apply Seq.val
      focus
        rintro w1 u ⟨R1, n1, rfl⟩ hF
        simp [moreFacts, Fact.more, Oper.deps, Region.binds, List.filter_cons, World.more_drew] at hF
        simp [putFacts, Oper.deps, Region.binds, List.filter_cons, Region.dstOf, Fact.at, Act.put, World.more_drew]
        go_wp2
        exact ⟨by repeat (first | with_reducible exact Grew.refl _ | apply Grew.more | apply Grew.alloc | apply Grew.drew | apply Grew.drewN), rfl, _, _, rfl, rfl, rfl⟩
    apply Seq.val
    focus
      rintro w1 u ⟨R1, n1, rfl⟩ hF
      simp [moreFacts, Fact.more, Oper.deps, Region.binds, List.filter_cons, World.more_drew] at hF
      simp [putFacts, Oper.deps, Region.binds, List.filter_cons, Region.dstOf, Fact.at, Act.put, World.more_drew]
      go_wp2_with (first
        | (go_at_call 70; refine (HPL.out _ (by repeat (first | with_reducible exact Grew.refl _ | apply Grew.more | apply Grew.alloc | apply Grew.drew | apply Grew.drewN))).mono ?_; rintro e w1 ⟨rfl, R4, n4, rfl⟩)
        )
      exact ⟨by repeat (first | with_reducible exact Grew.refl _ | apply Grew.more | apply Grew.alloc | apply Grew.drew | apply Grew.drewN), rfl, _, _, rfl, rfl, rfl⟩
    iterate 4
      apply Seq.val
      focus
        rintro w1 u ⟨R1, n1, rfl⟩ hF
        simp [moreFacts, Fact.more, Oper.deps, Region.binds, List.filter_cons, World.more_drew] at hF
        simp [putFacts, Oper.deps, Region.binds, List.filter_cons, Region.dstOf, Fact.at, Act.put, World.more_drew]
        go_wp2
        exact ⟨by repeat (first | with_reducible exact Grew.refl _ | apply Grew.more | apply Grew.alloc | apply Grew.drew | apply Grew.drewN), rfl, _, _, rfl, rfl, rfl⟩
    apply Seq.val
    focus
      rintro w1 u ⟨R1, n1, rfl⟩ hF
      simp [moreFacts, Fact.more, Oper.deps, Region.binds, List.filter_cons, World.more_drew] at hF
      simp [putFacts, Oper.deps, Region.binds, List.filter_cons, Region.dstOf, Fact.at, Act.put, World.more_drew]
      go_wp2_with (first
        | (go_at_call 69; refine (HT.out _ (by repeat (first | with_reducible exact Grew.refl _ | apply Grew.more | apply Grew.alloc | apply Grew.drew | apply Grew.drewN))).mono ?_; rintro e w1 ⟨rfl, R5, n5, rfl⟩)
        )
      exact ⟨by repeat (first | with_reducible exact Grew.refl _ | apply Grew.more | apply Grew.alloc | apply Grew.drew | apply Grew.drewN), rfl, _, _, rfl, rfl, rfl⟩
    iterate 2
      apply Seq.val
      focus
        rintro w1 u ⟨R1, n1, rfl⟩ hF
        simp [moreFacts, Fact.more, Oper.deps, Region.binds, List.filter_cons, World.more_drew] at hF
        simp [putFacts, Oper.deps, Region.binds, List.filter_cons, Region.dstOf, Fact.at, Act.put, World.more_drew]
        go_wp2
        exact ⟨by repeat (first | with_reducible exact Grew.refl _ | apply Grew.more | apply Grew.alloc | apply Grew.drew | apply Grew.drewN), rfl, _, _, rfl, rfl, rfl⟩
    rintro u w1 ⟨R1, n1, rfl⟩ hF
    clear hF
    simp [putFacts, Region.dstOf, Fact.at, Act.put, List.range_succ, World.more_drew]
    go_wp2
    go_ret
    exact ⟨by simp [str_cat, Li.sOP, Li.behind], by repeat (first | with_reducible exact Grew.refl _ | apply Grew.more | apply Grew.alloc | apply Grew.drew | apply Grew.drewN)⟩
  · rw [if_neg (by omega), if_neg (by omega), if_pos (by simp)]
    go_enter Tryz.func67, Tryz.ntmps67
    go_wp2_with (first
      | (go_at_call 66; refine (HF.out _ (by repeat (first | with_reducible exact Grew.refl _ | apply Grew.more | apply Grew.alloc | apply Grew.drew | apply Grew.drewN))).mono ?_; rintro e w1 ⟨rfl, R1, n1, rfl⟩)
      | (go_at_call 33; refine (HI.out _ (by repeat (first | with_reducible exact Grew.refl _ | apply Grew.more | apply Grew.alloc | apply Grew.drew | apply Grew.drewN))).mono ?_; rintro e w1 ⟨rfl, R2, n2, rfl⟩)
      | fail)
    refine wp_region_seq 11 Tryz.mixed (by kernel_rfl) (by kernel_rfl) ?_
    iterate 4
      apply Seq.val
      focus
        rintro w1 u ⟨R1, n1, rfl⟩ hF
        simp [moreFacts, Fact.more, Oper.deps, Region.binds, List.filter_cons, World.more_drew] at hF
        simp [putFacts, Oper.deps, Region.binds, List.filter_cons, Region.dstOf, Fact.at, Act.put, World.more_drew]
        go_wp2
        exact ⟨by repeat (first | with_reducible exact Grew.refl _ | apply Grew.more | apply Grew.alloc | apply Grew.drew | apply Grew.drewN), rfl, _, _, rfl, rfl, rfl⟩
    apply Seq.val
    focus
      rintro w1 u ⟨R1, n1, rfl⟩ hF
      simp [moreFacts, Fact.more, Oper.deps, Region.binds, List.filter_cons, World.more_drew] at hF
      simp [putFacts, Oper.deps, Region.binds, List.filter_cons, Region.dstOf, Fact.at, Act.put, World.more_drew]
      go_wp2_with (first
        | (go_at_call 71; refine (HL.out _ (by repeat (first | with_reducible exact Grew.refl _ | apply Grew.more | apply Grew.alloc | apply Grew.drew | apply Grew.drewN))).mono ?_; rintro e w1 ⟨rfl, R3, n3, rfl⟩)
        )
      exact ⟨by repeat (first | with_reducible exact Grew.refl _ | apply Grew.more | apply Grew.alloc | apply Grew.drew | apply Grew.drewN), rfl, _, _, rfl, rfl, rfl⟩
    iterate 3
      apply Seq.val
      focus
        rintro w1 u ⟨R1, n1, rfl⟩ hF
        simp [moreFacts, Fact.more, Oper.deps, Region.binds, List.filter_cons, World.more_drew] at hF
        simp [putFacts, Oper.deps, Region.binds, List.filter_cons, Region.dstOf, Fact.at, Act.put, World.more_drew]
        go_wp2
        exact ⟨by repeat (first | with_reducible exact Grew.refl _ | apply Grew.more | apply Grew.alloc | apply Grew.drew | apply Grew.drewN), rfl, _, _, rfl, rfl, rfl⟩
    apply Seq.val
    focus
      rintro w1 u ⟨R1, n1, rfl⟩ hF
      simp [moreFacts, Fact.more, Oper.deps, Region.binds, List.filter_cons, World.more_drew] at hF
      simp [putFacts, Oper.deps, Region.binds, List.filter_cons, Region.dstOf, Fact.at, Act.put, World.more_drew]
      go_wp2_with (first
        | (go_at_call 70; refine (HPL.out _ (by repeat (first | with_reducible exact Grew.refl _ | apply Grew.more | apply Grew.alloc | apply Grew.drew | apply Grew.drewN))).mono ?_; rintro e w1 ⟨rfl, R4, n4, rfl⟩)
        )
      exact ⟨by repeat (first | with_reducible exact Grew.refl _ | apply Grew.more | apply Grew.alloc | apply Grew.drew | apply Grew.drewN), rfl, _, _, rfl, rfl, rfl⟩
    iterate 2
      apply Seq.val
      focus
        rintro w1 u ⟨R1, n1, rfl⟩ hF
        simp [moreFacts, Fact.more, Oper.deps, Region.binds, List.filter_cons, World.more_drew] at hF
        simp [putFacts, Oper.deps, Region.binds, List.filter_cons, Region.dstOf, Fact.at, Act.put, World.more_drew]
        go_wp2
        exact ⟨by repeat (first | with_reducible exact Grew.refl _ | apply Grew.more | apply Grew.alloc | apply Grew.drew | apply Grew.drewN), rfl, _, _, rfl, rfl, rfl⟩
    rintro u w1 ⟨R1, n1, rfl⟩ hF
    clear hF
    simp [putFacts, Region.dstOf, Fact.at, Act.put, List.range_succ, World.more_drew]
    go_wp2
    go_ret
    exact ⟨by simp [str_cat, Li.sSINK], by repeat (first | with_reducible exact Grew.refl _ | apply Grew.more | apply Grew.alloc | apply Grew.drew | apply Grew.drewN)⟩
  · rw [if_neg (by omega), if_neg (by omega), if_neg (by omega)]
    have h1b : ¬ ((np : Int) = 0) := by omega
    go_enter Tryz.func67, Tryz.ntmps67
    go_wp2_with (first
      | (go_at_call 66; refine (HF.out _ (by repeat (first | with_reducible exact Grew.refl _ | apply Grew.more | apply Grew.alloc | apply Grew.drew | apply Grew.drewN))).mono ?_; rintro e w1 ⟨rfl, R1, n1, rfl⟩)
      | (go_at_call 33; refine (HI.out _ (by repeat (first | with_reducible exact Grew.refl _ | apply Grew.more | apply Grew.alloc | apply Grew.drew | apply Grew.drewN))).mono ?_; rintro e w1 ⟨rfl, R2, n2, rfl⟩))
    go_ret
    exact ⟨rfl, by repeat (first | with_reducible exact Grew.refl _ | apply Grew.more | apply Grew.alloc | apply Grew.drew | apply Grew.drewN)⟩
  · rw [if_neg (by omega), if_neg (by omega), if_neg (by omega)]
    go_enter Tryz.func67, Tryz.ntmps67
    go_wp2_with (first
      | (go_at_call 66; refine (HF.out _ (by repeat (first | with_reducible exact Grew.refl _ | apply Grew.more | apply Grew.alloc | apply Grew.drew | apply Grew.drewN))).mono ?_; rintro e w1 ⟨rfl, R1, n1, rfl⟩)
      | (go_at_call 33; refine (HI.out _ (by repeat (first | with_reducible exact Grew.refl _ | apply Grew.more | apply Grew.alloc | apply Grew.drew | apply Grew.drewN))).mono ?_; rintro e w1 ⟨rfl, R2, n2, rfl⟩))
    go_ret
    exact ⟨rfl, by repeat (first | with_reducible exact Grew.refl _ | apply Grew.more | apply Grew.alloc | apply Grew.drew | apply Grew.drewN)⟩
end Go.Proofs.YtmnllmbchpebbaaGreatDoor
