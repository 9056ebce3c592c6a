import Derived.Test.YtekkkmkhnphlhaaGreatDoorGh13
import Derived.Lib.SlicesCompact
import Derived.Test.YtekkkmkhnphlhaaGreatDoorGh9
import Derived.Test.YtekkkmkhnphlhaaGreatDoorGh5
import Derived.Test.YtekkkmkhnphlhaaGreatDoorGh8
import Derived.Test.YtekkkmkhnphlhaaGreatDoorGh0
import Derived.Deep.QuietTactic
import Derived.BigQuiet
/-! graph.unlike: a list's numbers are unlike. -/
namespace Go.Proofs.YtekkkmkhnphlhaaGreatDoor
set_option linter.unusedSimpArgs false
set_option linter.unusedVariables false
open Go.RowKit Ga
set_option maxRecDepth 100000

theorem keeps_iff (s : List Int) (j : Nat) (hj : j < s.length) (h0 : 0 < j) : Lib.keeps s.toArray j = true ↔ s[j] ≠ s[j - 1]'(by omega) := by
  unfold Lib.keeps
  rw [decide_eq_true_eq]
  have e1 : s.toArray[j]! = s[j] := by rw [getElem!_pos s.toArray j (by simpa using hj)]; simp
  have e2 : s.toArray[j - 1]! = s[j - 1]'(by omega) := by rw [getElem!_pos s.toArray (j - 1) (by simp; omega)]; simp
  rw [e1, e2]
  exact ⟨fun h => h.resolve_left (by omega), .inr⟩
theorem compact_len (s : List Int) (hs : s.Pairwise (· ≤ ·)) : (Lib.compact s).length = s.length ↔ s.Nodup := by
  unfold Lib.compact Lib.compactUpTo
  rw [List.length_map]
  have hf : ((List.range s.length).filter (Lib.keeps s.toArray)).length = s.length ↔ ∀ j ∈ List.range s.length, Lib.keeps s.toArray j = true := by
    have := List.length_filter_eq_length_iff (p := Lib.keeps s.toArray) (l := List.range s.length)
    rw [List.length_range] at this
    exact this
  rw [hf]
  rw [List.pairwise_iff_getElem] at hs
  constructor
  · intro h
    rw [List.Nodup, List.pairwise_iff_getElem]
    intro i j hi hj hij he
    have h1 := (keeps_iff s j hj (by omega)).1 (h j (List.mem_range.2 hj))
    rcases Nat.lt_or_ge i (j - 1) with h2 | h2
    · have h3 := hs i (j - 1) hi (by omega) h2
      have h4 := hs (j - 1) j (by omega) hj (by omega)
      exact h1 (by omega)
    · obtain rfl : i = j - 1 := by omega
      exact h1 he.symm
  · intro h j hj
    have hj := List.mem_range.1 hj
    rcases Nat.eq_zero_or_pos j with rfl | h0
    · exact Lib.keeps_lt_one _ 0 (by omega)
    · refine (keeps_iff s j hj h0).2 fun e => ?_
      exact (List.pairwise_iff_getElem.1 h) (j - 1) j (by omega) hj (by omega) e.symm
def sortI (l : List Int) : List Int := l.mergeSort fun x y => decide (x ≤ y)
theorem sortI_len (l : List Int) : (sortI l).length = l.length := List.length_mergeSort l
theorem sortI_perm (l : List Int) : (sortI l).Perm l := List.mergeSort_perm l _
theorem sortI_sorted (l : List Int) : (sortI l).Pairwise (· ≤ ·) := by
  have := List.pairwise_mergeSort (le := fun x y : Int => decide (x ≤ y)) (fun a b c h1 h2 => by simp at *; omega) (fun a b => by simp; omega) l
  exact this.imp fun h => by simpa using h
theorem unlike_iff (l : List Int) : decide ((Lib.compact (sortI l)).length = l.length) = decide l.Nodup := by
  have h := compact_len (sortI l) (sortI_sorted l)
  rw [sortI_len, (sortI_perm l).nodup_iff] at h
  exact decide_eq_decide.2 h

theorem grewRow {α : Type} [Inhabited α] {enc : α → Value} {w0 W : World} (g : Grew w0 W) {b off : Nat} {d : Array α} (hb : w0.heap.size ≤ b) : Grew w0 (Sort.putRow enc W b off d) :=
  Grew.ofBelow (g.below.trans ⟨rfl, rfl, rfl, by rw [Sort.size_putRow]; exact Nat.le_refl _, fun k hk => by
    unfold Sort.putRow Sort.mapBlock
    simp only [Array.getElem?_modify]
    rw [if_neg (by omega)]⟩)
theorem grewAhead {w0 W : World} (g : Grew w0 W) (n : Nat) : Grew w0 (Sort.ahead W n) := g.drewN n
theorem grewOs {w0 W : World} (g : Grew w0 W) (os : Array Obj) : Grew w0 (Sort.grow W os) := g.more os W.drawn
theorem own_holds {base : Nat} {W : World} {b cap n : Nat} {l : List Int} (h : OwnAt base 3 1 encN W (.slice (some ⟨b, 0, none⟩) n cap) l) : Sort.Holds (Value.int .i64) W b 0 l.toArray ∧ l.length ≤ cap ∧ base ≤ b ∧ b < W.heap.size := by
  obtain ⟨h1, h2⟩ := h
  rcases h2 with ⟨h, _⟩ | ⟨g, cap', cur, hv, hb, hh, hc, hm, hs, ht⟩
  · cases h
  · cases hv
    have hb' := (Array.getElem?_eq_some_iff.1 hh).1
    refine ⟨fun j hj => ?_, by omega, hb, hb'⟩
    have hj' : j < l.length := by simpa using hj
    have e1 : l.toArray[j]! = l[j] := by rw [getElem!_pos l.toArray j hj]; simp
    rw [Nat.zero_add, cell_of_heap hh, frozen_of_heap hh, e1]
    refine ⟨?_, rfl⟩
    have h3 : (l.flatMap encN)[j]? = some (.int .i64 l[j]) := by
      have := flat_get encN_len l j l[j] (List.getElem?_eq_getElem hj') 0 (.int .i64 l[j]) rfl
      simpa using this
    rw [← ht] at h3
    rw [List.getElem?_take] at h3
    split at h3
    · simpa using h3
    · cases h3

set_option maxHeartbeats 2000000 in
theorem unlike_any (v : Value) (l : List Int) (w : World) (hv : IntsAt w v l) (hl : l.length ≤ 1000) : Calls Tryz.prog 99 #[v] w (Gives (.bool (decide l.Nodup)) w) := by
  have hC := cloneInts_any v l w hv hl
  have hlen : decide ((Lib.compact (sortI l)).length = l.length) = decide l.Nodup := unlike_iff l
  have HL := Lib.hid hlen
  have hcl : (Lib.compact (sortI l)).length ≤ 1000 := Nat.le_trans (Lib.compact_length_le _) (by rw [sortI_len]; exact hl)
  obtain ⟨a, cap, rfl, -⟩ := hv
  clear hlen
  by_cases h0 : l = []
  · subst h0
    have hd : (decide ([] : List Int).Nodup) = true := by decide
    rw [hd]
    have HC := Lib.hid hC
    clear hC hd hcl HL
    go_enter Tryz.func99, Tryz.ntmps99
    go_wp2_with (first
      | (go_at_call 132; refine HC.out.mono ?_; rintro e w1 ⟨v1, rfl, ho1, R3, n3, rfl⟩; obtain ⟨a1, c1, rfl⟩ := (ho1.rows encN_len).len; clear ho1; simp only [List.length_nil])
      | (go_at_call 150; refine (Tryz.slices_Sort_int_none _ _ _).mono ?_; rintro e w1 ⟨rfl, hw1⟩; obtain rfl := hw1)
      | (go_at_call 151; refine (Tryz.slices_Compact_int_empty _ _ _).mono ?_; rintro e w1 ⟨rfl, hw1⟩; obtain rfl := hw1))
    go_ret
    refine ⟨rfl, ?_⟩
    repeat (first | with_reducible exact Grew.refl _ | apply Grew.more | apply Grew.alloc | apply Grew.drew | apply Grew.drewN)
  · have hpos : 0 < l.length := List.length_pos_iff.2 h0
    have HC := Lib.hid hC
    have HP := Lib.hid h0
    clear hC h0
    go_enter Tryz.func99, Tryz.ntmps99
    go_wp2_with (first
      | (go_at_call 132; refine HC.out.mono ?_; rintro e w1 ⟨v1, rfl, ho1, hg1⟩; obtain ⟨b1, c1, rfl⟩ := own_some' ho1 hpos; obtain ⟨hh1, hc1, hb1, hb2⟩ := own_holds ho1; (have HH1 := Lib.hid hh1); (have HG1 := Lib.hid hg1); clear ho1 hh1 hg1)
      | (go_at_call 150; go_loud (refine (Tryz.slices_Sort_int b1 0 c1 l _ HH1.out hb2 (by omega)).mono ?_; rintro e w2 ⟨rfl, n2, os2, hw2⟩; (have hh2 : Sort.Holds (Value.int .i64) w2 b1 0 (sortI l).toArray := by rw [hw2]; exact Sort.holds_grow _ _ _ _ _ _ (by rw [Sort.size_putRow]; exact hb2) (Sort.holds_putRow _ _ _ _ _ _ (Sort.holds_ahead _ _ _ _ _ _ HH1.out) (by simp [sortI]))); (have hg2 : Grew w w2 := by rw [hw2]; exact grewOs (grewRow (grewAhead HG1.out _) hb1) _); (have HH2 := Lib.hid hh2); (have HG2 := Lib.hid hg2); (have hsl := sortI_len l); clear hh2 hg2 hw2))
      | (go_at_call 151; (have hc3 := Tryz.slices_Compact_int b1 0 c1 (sortI l) w2 HH2.out (by omega) (by omega)); rw [hsl] at hc3; refine hc3.mono ?_; rintro e w3 ⟨rfl, n3, hw3⟩; (have hg3 : Grew w w3 := by rw [hw3]; exact grewRow (grewAhead HG2.out _) hb1); (have HG3 := Lib.hid hg3); clear hg3 hw3 hc3 hsl))
    go_ret
    refine ⟨?_, HG3.out⟩
    show Ending.returned (.bool (((Lib.compact (sortI l)).length : Int) == (l.length : Int))) = _
    rw [← HL.out]
    refine congrArg (fun b => Ending.returned (Value.bool b)) ?_
    rw [Bool.eq_iff_iff, beq_iff_eq, decide_eq_true_eq]
    omega
end Go.Proofs.YtekkkmkhnphlhaaGreatDoor

/-! graph.Find; the predicates route$1, sort$1, sort$2, node$1. -/
namespace Go.Proofs.YtekkkmkhnphlhaaGreatDoor
set_option linter.unusedSimpArgs false
set_option linter.unusedVariables false
open Go.RowKit Ga
set_option maxRecDepth 100000

theorem enters182 : ∀ args w, (callFunc 182 args).run Tryz.prog w = .ok (.enter 182 args) w := enters_of Tryz.func182 (by kernel_rfl) rfl
theorem find1_pred (id : Int) (B : Nat) (w : World) (hB : Pre B w) (hc : w.cell? ⟨B, 0, none⟩ = some (.int .i64 id)) : PredN 182 #[.pointer (some ⟨B, 0, none⟩)] (fun n => n.id == id) w := by
  intro W c n g hn
  obtain ⟨R, N, rfl⟩ := g
  have hid := hn.id
  have HI := Lib.hid hid
  clear hn hid
  obtain ⟨cid, kind, af, nf, cf, ap, np, cp, par, r0, r1, r2, r3, r4, r5, r6, r7⟩ := c
  have hb : (n.id == id) = (cid == id) := by rw [HI.out]
  show Calls Tryz.prog 182 #[.agg #[.int .i64 cid, .int .i64 kind, .slice af nf cf, .slice ap np cp, .int .i64 par, .int .i64 r0, .int .i64 r1, .int .i64 r2, .int .i64 r3, .int .i64 r4, .int .i64 r5, .int .i64 r6, .int .i64 r7], .pointer (some ⟨B, 0, none⟩)] _ (Gives (.bool (n.id == id)) _)
  rw [hb]
  clear HI hb
  go_enter Tryz.func182, Tryz.ntmps182
  go_wp2
  go_ret
  refine ⟨rfl, ?_⟩
  repeat (first | with_reducible exact Grew.refl _ | apply Grew.more | apply Grew.alloc | apply Grew.drew | apply Grew.drewN)
theorem find_idxP (l : List Gr.Nd) (id : Int) : idxP (fun n : Gr.Nd => n.id == id) l = findI l id := rfl

def GivesFind (r : Option Gr.Nd) (w : World) (e : Ending) (w' : World) : Prop := match r with
  | some n => ∃ c : NdC, e = .returned (.tuple #[.agg #[.int .i64 c.id, .int .i64 c.kind, .slice c.af c.nf c.cf, .slice c.ap c.np c.cp, .int .i64 c.par, .int .i64 c.r0, .int .i64 c.r1, .int .i64 c.r2, .int .i64 c.r3, .int .i64 c.r4, .int .i64 c.r5, .int .i64 c.r6, .int .i64 c.r7], .bool true]) ∧ NodeIs w' c n ∧ OwnsNd w.heap.size w' c n ∧ Grew w w'
  | none => e = .returned (.tuple #[.agg #[.int .i64 0, .int .i64 0, .slice none 0 0, .slice none 0 0, .int .i64 0, .int .i64 0, .int .i64 0, .int .i64 0, .int .i64 0, .int .i64 0, .int .i64 0, .int .i64 0, .int .i64 0], .bool false]) ∧ Grew w w'
theorem find_made {w w' w1 : World} (c : NdC) {n : Gr.Nd} (h : NodeIs w1 c n) (o : OwnsNd w.heap.size w' c n) (g : Grew w w') : GivesFind (some n) w (.returned (.tuple #[.agg #[.int .i64 c.id, .int .i64 c.kind, .slice c.af c.nf c.cf, .slice c.ap c.np c.cp, .int .i64 c.par, .int .i64 c.r0, .int .i64 c.r1, .int .i64 c.r2, .int .i64 c.r3, .int .i64 c.r4, .int .i64 c.r5, .int .i64 c.r6, .int .i64 c.r7], .bool true])) w' :=
  ⟨c, rfl, o.is h, o, g⟩
/-- nodes that are not too great -/
def Small (l : List Gr.Nd) : Prop := ∀ n ∈ l, n.frm.length ≤ 1000 ∧ n.prog.length ≤ 1000
set_option maxHeartbeats 4000000 in
theorem find_any (v : Value) (l : List Gr.Nd) (id : Int) (w : World) (hv : NodesAt w v l) (hs : Small l) : Calls Tryz.prog 147 #[v, .int .i64 id] w (GivesFind (Gr.nodeOf l id) w) := by
  have HV := Lib.hid hv
  have HS := Lib.hid hs
  have hI := fun W (g : Grew w W) (B : Nat) (hB : Pre B W) (hc : W.cell? ⟨B, 0, none⟩ = some (.int .i64 id)) => indexNodes_any v l 182 #[.pointer (some ⟨B, 0, none⟩)] (fun n => n.id == id) W (HV.out.grew g) enters182 (find1_pred id B W hB hc)
  have HI := Lib.hid hI
  obtain ⟨a, cap, rfl, hm, -⟩ := hv.openC
  clear hv hs hI
  cases hf : Gr.find l id with
  | none =>
    have hi := findI_none hf
    have hr : Gr.nodeOf l id = none := by unfold Gr.nodeOf; rw [hf]; rfl
    rw [hr]
    have HF := Lib.hid hi
    clear hi hf hr
    go_enter Tryz.func147, Tryz.ntmps147
    go_wp2_with (go_at_call 181; (refine (HI.out _ (by repeat (first | with_reducible exact Grew.refl _ | apply Grew.more | apply Grew.alloc | apply Grew.drew | apply Grew.drewN)) w.heap.size (by simp [go_sem]) (by simp [go_sem])).mono ?_; rintro e w1 ⟨rfl, R3, n3, rfl⟩; rw [find_idxP, HF.out]))
    exact bodyPost_ret (v := .tuple #[.agg #[.int .i64 0, .int .i64 0, .slice none 0 0, .slice none 0 0, .int .i64 0, .int .i64 0, .int .i64 0, .int .i64 0, .int .i64 0, .int .i64 0, .int .i64 0, .int .i64 0, .int .i64 0], .bool false]) (by simp [results, Tryz.results147, go_sem]) rfl ⟨rfl, by repeat (first | with_reducible exact Grew.refl _ | apply Grew.more | apply Grew.alloc | apply Grew.drew | apply Grew.drewN)⟩
  | some i =>
    obtain ⟨hi, hil⟩ := findI_some hf
    have hr : Gr.nodeOf l id = some l[i] := by unfold Gr.nodeOf; rw [hf, Option.bind_some, List.getElem?_eq_getElem hil]
    rw [hr]
    have HF := Lib.hid hi
    have hi0 : decide ((i : Int) < 0) = false := decide_eq_false (by omega)
    obtain ⟨a', cap', e, -, hx⟩ := HV.out.openC
    cases e
    obtain ⟨b, off, c, rfl, hb, hn, c0, c1, c2, c3, c4, c5, c6, c7, c8, c9, c10, c11, c12⟩ := hx i hil
    obtain ⟨hs1, hs2⟩ := HS.out _ (List.getElem_mem hil)
    have HN := Lib.hid hn
    clear hi hf hr hx hn
    generalize l[i] = n at *
    have HO := Lib.hid fun W (g : Grew w W) => own_any c n W (HN.out.grew g) hs1 hs2
    obtain ⟨cid, kind, af, cf, ap, cp, par, r0, r1, r2, r3, r4, r5, r6, r7, rfl⟩ := HN.out.lit
    simp only at c0 c1 c2 c3 c4 c5 c6 c7 c8 c9 c10 c11 c12
    go_enter Tryz.func147, Tryz.ntmps147
    go_wp2_with (first
      | (go_at_call 181; refine (HI.out _ (by repeat (first | with_reducible exact Grew.refl _ | apply Grew.more | apply Grew.alloc | apply Grew.drew | apply Grew.drewN)) w.heap.size (by simp [go_sem]) (by simp [go_sem])).mono ?_; rintro e w1 ⟨rfl, R3, n3, rfl⟩; rw [find_idxP, HF.out])
      | (go_at_call 102; refine (HO.out _ (by repeat (first | with_reducible exact Grew.refl _ | apply Grew.more | apply Grew.alloc | apply Grew.drew | apply Grew.drewN))).mono ?_; rintro e w1 ⟨c9, rfl, hn9, ho9, R4, n4, rfl⟩; obtain ⟨cid9, kind9, af9, cf9, ap9, cp9, par9, s0, s1, s2, s3, s4, s5, s6, s7, rfl⟩ := hn9.lit; (have HN9 := Lib.hid hn9); (have HO9 := Lib.hid ho9); clear hn9 ho9))
    refine bodyPost_ret (v := .tuple #[.agg #[.int .i64 cid9, .int .i64 kind9, .slice af9 n.frm.length cf9, .slice ap9 n.prog.length cp9, .int .i64 par9, .int .i64 s0, .int .i64 s1, .int .i64 s2, .int .i64 s3, .int .i64 s4, .int .i64 s5, .int .i64 s6, .int .i64 s7], .bool true]) (by simp [results, Tryz.results147, go_sem]) rfl ?_
    exact find_made ⟨cid9, kind9, af9, n.frm.length, cf9, ap9, n.prog.length, cp9, par9, s0, s1, s2, s3, s4, s5, s6, s7⟩ HN9.out (OwnsNd.low (OwnsNd.to HO9.out fun b h1 h2 => heap_more_same (by simp [World.size_alloc, World.more_size]) R4 n4 b h1) (by simp [World.size_alloc, World.more_size]; omega)) (by repeat (first | with_reducible exact Grew.refl _ | apply Grew.more | apply Grew.alloc | apply Grew.drew | apply Grew.drewN))
end Go.Proofs.YtekkkmkhnphlhaaGreatDoor

/-! route: Right, Task. -/
namespace Go.Proofs.YtekkkmkhnphlhaaGreatDoor
set_option linter.unusedSimpArgs false
set_option linter.unusedVariables false
open Go.RowKit Ga
set_option maxRecDepth 100000

/-- may a route be? -/
def rtB (par : Int) (r : List Int) : Bool := decide (1 ≤ par) && (decide (par ≤ 3) && r.all fun t => decide (0 ≤ t) && decide (t < par))
theorem rtB_iff {par : Int} {r : List Int} : rtB par r = true ↔ (1 ≤ par ∧ par ≤ 3) ∧ ∀ t ∈ r, 0 ≤ t ∧ t < par := by
  unfold rtB
  simp [and_assoc]
theorem index8 (r0 r1 r2 r3 r4 r5 r6 r7 : Int) (k : Nat) (hk : k < 8) (w : World) : (Instr.index 58 (.agg #[.int .i64 r0, .int .i64 r1, .int .i64 r2, .int .i64 r3, .int .i64 r4, .int .i64 r5, .int .i64 r6, .int .i64 r7]) (.int .i64 k)).run Tryz.prog w = .ok (.int .i64 ([r0, r1, r2, r3, r4, r5, r6, r7].getD k 0)) w := by
  rcases (show k = 0 ∨ k = 1 ∨ k = 2 ∨ k = 3 ∨ k = 4 ∨ k = 5 ∨ k = 6 ∨ k = 7 by omega) with rfl | rfl | rfl | rfl | rfl | rfl | rfl | rfl <;> kernel_rfl
set_option maxHeartbeats 4000000 in
theorem routeRight_any (par r0 r1 r2 r3 r4 r5 r6 r7 : Int) (w : World) : Calls Tryz.prog 176 #[.int .i64 par, .agg #[.int .i64 r0, .int .i64 r1, .int .i64 r2, .int .i64 r3, .int .i64 r4, .int .i64 r5, .int .i64 r6, .int .i64 r7]] w (Gives (.bool (rtB par [r0, r1, r2, r3, r4, r5, r6, r7])) w) := by
  have hmem : ∀ k, k < 8 → [r0, r1, r2, r3, r4, r5, r6, r7].getD k 0 ∈ [r0, r1, r2, r3, r4, r5, r6, r7] := fun k hk => by
    rw [List.getD_eq_getElem?_getD, List.getElem?_eq_getElem (by simpa using hk)]
    exact List.getElem_mem _
  have hall : (∀ k, k < 8 → 0 ≤ [r0, r1, r2, r3, r4, r5, r6, r7].getD k 0 ∧ [r0, r1, r2, r3, r4, r5, r6, r7].getD k 0 < par) → ∀ t ∈ [r0, r1, r2, r3, r4, r5, r6, r7], 0 ≤ t ∧ t < par := fun h t ht => by
    obtain ⟨i, hi, e⟩ := List.mem_iff_getElem.1 ht
    have := h i (by simpa using hi)
    rw [List.getD_eq_getElem?_getD, List.getElem?_eq_getElem hi, e] at this
    exact this
  have hix := index8 r0 r1 r2 r3 r4 r5 r6 r7
  have HIFF := Lib.hid (rtB_iff (par := par) (r := [r0, r1, r2, r3, r4, r5, r6, r7]))
  have HMEM := Lib.hid hmem
  have HALL := Lib.hid hall
  have HIX := Lib.hid hix
  clear hmem hall hix
  generalize hQ : rtB par [r0, r1, r2, r3, r4, r5, r6, r7] = q at *
  clear hQ
  by_cases h1 : 1 ≤ par
  case neg =>
    have hq : q = false := by cases hq : q; · rfl
                              · exact absurd (HIFF.out.1 hq).1.1 h1
    subst hq
    go_enter Tryz.func176, Tryz.ntmps176
    go_wp2
    go_ret
    refine ⟨rfl, ?_⟩
    repeat (first | with_reducible exact Grew.refl _ | apply Grew.more | apply Grew.alloc | apply Grew.drew | apply Grew.drewN)
  by_cases h2 : par ≤ 3
  case neg =>
    have hq : q = false := by cases hq : q; · rfl
                              · exact absurd (HIFF.out.1 hq).1.2 h2
    subst hq
    go_enter Tryz.func176, Tryz.ntmps176
    go_wp2
    go_ret
    refine ⟨rfl, ?_⟩
    repeat (first | with_reducible exact Grew.refl _ | apply Grew.more | apply Grew.alloc | apply Grew.drew | apply Grew.drewN)
  go_enter Tryz.func176, Tryz.ntmps176
  go_wp2
  go_loopg [14] 8 (fun gg s14 wr => ∃ k : Nat, k ≤ 8 ∧ 8 - k ≤ gg ∧ s14 = .int .i64 k ∧ Hid (Grew w wr) ∧ Hid (∀ j, j < k → 0 ≤ [r0, r1, r2, r3, r4, r5, r6, r7].getD j 0 ∧ [r0, r1, r2, r3, r4, r5, r6, r7].getD j 0 < par))
  case atStart => exact ⟨0, by omega, by omega, rfl, Lib.hid (by repeat (first | with_reducible exact Grew.refl _ | apply Grew.more | apply Grew.alloc | apply Grew.drew | apply Grew.drewN)), Lib.hid fun j h => by omega⟩
  case round =>
    obtain ⟨k, hk, hgg, rfl, HG, HNO⟩ := hrel
    by_cases hlt : k < 8
    · have hi := HIX.out k hlt
      have hm := HMEM.out k hlt
      have hstep : (0 ≤ [r0, r1, r2, r3, r4, r5, r6, r7].getD k 0 ∧ [r0, r1, r2, r3, r4, r5, r6, r7].getD k 0 < par) → ∀ j, j < k + 1 → 0 ≤ [r0, r1, r2, r3, r4, r5, r6, r7].getD j 0 ∧ [r0, r1, r2, r3, r4, r5, r6, r7].getD j 0 < par := fun h j hj => by
        rcases Nat.lt_or_ge j k with h1 | h1
        · exact HNO.out j h1
        · obtain rfl : j = k := by omega
          exact h
      generalize hy : [r0, r1, r2, r3, r4, r5, r6, r7].getD k 0 = y at *
      by_cases h3 : 0 ≤ y
      case neg =>
        have hq : q = false := by cases hq : q; · rfl
                                  · exact absurd ((HIFF.out.1 hq).2 y hm).1 h3
        subst hq
        clear hm hstep hy
        go_wp2
        go_ret
        exact ⟨rfl, HG.out.trans (by repeat (first | with_reducible exact Grew.refl _ | apply Grew.more | apply Grew.alloc | apply Grew.drew | apply Grew.drewN))⟩
      by_cases h4 : y < par
      case neg =>
        have hq : q = false := by cases hq : q; · rfl
                                  · exact absurd ((HIFF.out.1 hq).2 y hm).2 h4
        subst hq
        clear hm hstep hy
        go_wp2
        go_ret
        exact ⟨rfl, HG.out.trans (by repeat (first | with_reducible exact Grew.refl _ | apply Grew.more | apply Grew.alloc | apply Grew.drew | apply Grew.drewN))⟩
      have HS := Lib.hid (hstep ⟨h3, h4⟩)
      clear hm hstep hy
      go_wp2
      go_roundg (8 - (k + 1))
      case measure => omega
      case rel => exact ⟨k + 1, by omega, by omega, by go_num, HG, HS⟩
    · obtain rfl : k = 8 := by omega
      have hq : q = true := HIFF.out.2 ⟨⟨h1, h2⟩, HALL.out HNO.out⟩
      subst hq
      go_wp2
      go_ret
      exact ⟨rfl, HG.out.trans (by repeat (first | with_reducible exact Grew.refl _ | apply Grew.more | apply Grew.alloc | apply Grew.drew | apply Grew.drewN))⟩
end Go.Proofs.YtekkkmkhnphlhaaGreatDoor
