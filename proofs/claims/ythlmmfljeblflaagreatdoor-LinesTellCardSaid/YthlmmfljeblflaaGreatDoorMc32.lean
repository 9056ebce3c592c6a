import Derived.Test.YthlmmfljeblflaaGreatDoorMc30
import Derived.Test.YthlmmfljeblflaaGreatDoorMc14
import Derived.ScopeJumps
import Derived.Laws.EntriesVeiled
import Derived.Scope
import Derived.Test.YthlmmfljeblflaaGreatDoorMc2
import Derived.Test.YthlmmfljeblflaaGreatDoorMc17
import Derived.Test.YthlmmfljeblflaaGreatDoorMc22
import Derived.Test.YthlmmfljeblflaaGreatDoorMc11
import Derived.Deep.LoopGhost
import Derived.Maps.RangeWalk
import Derived.Test.YthlmmfljeblflaaGreatDoorMc13
import Derived.Deep.QuietTactic
import Derived.BigQuiet
import Derived.Test.YthlmmfljeblflaaGreatDoorMc5
import Derived.Deep.RegionHeld3
import Derived.Test.YthlmmfljeblflaaGreatDoorMc23
import Derived.Test.YthlmmfljeblflaaGreatDoorMc18
/-! graph.sort: its two closures; the world of a round. -/
namespace Go.Proofs.YthlmmfljeblflaaGreatDoor
set_option linter.unusedSimpArgs false
set_option linter.unusedVariables false
open Go.RowKit Ga
set_option maxRecDepth 100000

theorem enters101 : ∀ args w, (callFunc 101 args).run Tryz.prog w = .ok (.enter 101 args) w := enters_of Tryz.func101 (by kernel_rfl) rfl
theorem enters102 : ∀ args w, (callFunc 102 args).run Tryz.prog w = .ok (.enter 102 args) w := enters_of Tryz.func102 (by kernel_rfl) rfl
theorem sort1_pred (out : List Int) (v : Value) (B : Nat) (w : World) (hv : IntsAt w v out) (hB : Pre B w) (hc : w.cell? ⟨B, 0, none⟩ = some v) : PredI 101 #[.pointer (some ⟨B, 0, none⟩)] (fun x => decide (x ∈ out)) w := by
  intro W x g
  obtain ⟨R, N, rfl⟩ := g
  have HC := Lib.hid fun W (g : Grew w W) => containsI_any v out x W (hv.grew g)
  obtain ⟨a, cap, rfl⟩ := hv.len
  clear hv
  show Calls Tryz.prog 101 #[.int .i64 x, .pointer (some ⟨B, 0, none⟩)] _ (Gives (.bool (decide (x ∈ out))) _)
  generalize decide (x ∈ out) = r at *
  go_enter Tryz.func101, Tryz.ntmps101
  go_wp2_with (go_at_call 61; refine (HC.out _ (by repeat (first | with_reducible exact Grew.refl _ | apply Grew.more | apply Grew.alloc | apply Grew.drew | apply Grew.drewN))).mono ?_; rintro e w1 ⟨rfl, hw1⟩; obtain rfl := hw1)
  go_ret
  refine ⟨rfl, ?_⟩
  repeat (first | with_reducible exact Grew.refl _ | apply Grew.more | apply Grew.alloc | apply Grew.drew | apply Grew.drewN)
theorem sort2_pred (out : List Int) (v : Value) (B C : Nat) (w : World) (hv : IntsAt w v out) (hB : Pre B w) (hc : w.cell? ⟨B, 0, none⟩ = some v) (hC : Pre C w) (hcC : w.cell? ⟨C, 0, none⟩ = some (.func (.func 101) #[] #[.pointer (some ⟨B, 0, none⟩)])) : PredI 102 #[.pointer (some ⟨C, 0, none⟩)] (fun x => !decide (x ∈ out)) w := by
  intro W x g
  have HS := Lib.hid (sort1_pred out v B w hv hB hc)
  obtain ⟨R, N, rfl⟩ := g
  have eg := enters101
  clear hv hc hB
  show Calls Tryz.prog 102 #[.int .i64 x, .pointer (some ⟨C, 0, none⟩)] _ (Gives (.bool (!decide (x ∈ out))) _)
  generalize hq : (fun x => decide (x ∈ out)) = p at *
  have hp : decide (x ∈ out) = p x := by rw [← hq]
  rw [hp]
  clear hq hp
  generalize hr : p x = r
  have HR := Lib.hid hr
  clear hr
  go_enter Tryz.func102, Tryz.ntmps102
  go_wp2_with (go_at_fn 101; refine (HS.out _ x (by repeat (first | with_reducible exact Grew.refl _ | apply Grew.more | apply Grew.alloc | apply Grew.drew | apply Grew.drewN))).mono ?_; rintro e w1 ⟨rfl, R3, n3, rfl⟩; rw [HR.out])
  go_ret
  refine ⟨rfl, ?_⟩
  repeat (first | with_reducible exact Grew.refl _ | apply Grew.more | apply Grew.alloc | apply Grew.drew | apply Grew.drewN)

/-- a world of the sort's: w: the one that came in; w1: the one behind Norm; B: the cell of what stands; C: the cell of the closure -/
structure SortAt (w w1 : World) (B C : Nat) (W : World) (v : Value) (out : List Int) : Prop where
  keep : Keep B w1 W
  g : Grew w W
  own : OwnAt w.heap.size 3 1 encN W v out
  hi : ∀ q, v.ownBlock = some q → w1.heap.size ≤ q
  b : W.heap[B]? = some (.cells #[v] 29)
  c : W.heap[C]? = some (.cells #[.func (.func 101) #[] #[.pointer (some ⟨B, 0, none⟩)]] 156)
  bl : w.heap.size ≤ B
theorem SortAt.grew {w w1 : World} {B C : Nat} {W W' : World} {v : Value} {out : List Int} (h : SortAt w w1 B C W v out) (g : Grew W W') : SortAt w w1 B C W' v out :=
  ⟨h.keep.trans (Keep.ofGrew g), h.g.trans g, h.own.grew g, h.hi, grew_heap g h.b, grew_heap g h.c, h.bl⟩
theorem SortAt.push {w w1 : World} {B C : Nat} {W W' : World} {v v' : Value} {out : List Int} {x : Int} (h : SortAt w w1 B C W v out) (hA : Appended w 3 1 encN W v (out ++ [x]) v' W') :
    W'.heap[B]? = some (.cells #[v] 29) ∧ SortAt w w1 B C (W'.setCell ⟨B, 0, none⟩ v') v' (out ++ [x]) := by
  obtain ⟨a1, a2, a3, a4, a5⟩ := hA
  have hB : W'.heap[B]? = some (.cells #[v] 29) := by rw [a4 B (heap_lt h.b) (OwnAt.other h.own h.b (by decide))]; exact h.b
  have hC : W'.heap[C]? = some (.cells #[.func (.func 101) #[] #[.pointer (some ⟨B, 0, none⟩)]] 156) := by rw [a4 C (heap_lt h.c) (OwnAt.other h.own h.c (by decide))]; exact h.c
  have hne : B ≠ C := fun e => by
    rw [e, hC] at hB
    cases hB
  have hk : Keep B w1 W' := ⟨Nat.le_trans h.keep.1 a3, fun q hq hn => (a4 q (Nat.lt_of_lt_of_le hq h.keep.1) fun e => by have := h.hi q e; omega).trans (h.keep.2 q hq hn)⟩
  refine ⟨hB, ⟨hk.trans (Keep.set _), a1.set h.bl _, OwnAt.same a2 fun b hb => set_other fun e => ?_, fun q hq => ?_, by rw [set_self hB]; rfl, by rw [set_other hne]; exact hC, h.bl⟩⟩
  · subst e
    exact OwnAt.other a2 hB (by decide) hb
  · rcases a5 q hq with h1 | h1
    · exact h.hi q h1
    · exact Nat.le_trans h.keep.1 h1
/-- the nodes stand as they stood -/
theorem SortAt.nodes {w w1 : World} {B C base : Nat} {W : World} {v vn : Value} {out : List Int} {lc : List NdC} {l : List Gr.Nd} (h : SortAt w w1 B C W v out) (ho : NodesOwn base w1 vn lc) (hn : NodesIn base w1 lc l) (hB : ∃ c, w1.heap[B]? = some (.cells c 29)) : NodesAt W vn l := by
  obtain ⟨cB, hB⟩ := hB
  have hk := h.keep
  have hne : ∀ (q : Nat) (cs : Array Value) (t : TypeId), w1.heap[q]? = some (.cells cs t) → t ≠ 29 → q ≠ B := fun q cs t hq ht e => by
    subst e
    rw [hB] at hq
    cases hq
    exact ht rfl
  have ho2 : NodesOwn base W vn lc := OwnAt.same ho fun b hb => by
    obtain ⟨_, cs, h2⟩ := OwnAt.block ho hb
    exact hk.2 b (heap_lt h2) (hne b cs _ h2 (by decide))
  have hn2 : NodesIn base W lc l := Rel.mono (fun c n ⟨h1, h2⟩ => by
    have h3 : OwnsNd base W c n := by
      refine ⟨OwnAt.same h2.1 fun b hb => ?_, OwnAt.same h2.2 fun b hb => ?_⟩
      · obtain ⟨_, cs, h4⟩ := OwnAt.block h2.1 hb
        exact hk.2 b (heap_lt h4) (hne b cs _ h4 (by decide))
      · obtain ⟨_, cs, h4⟩ := OwnAt.block h2.2 hb
        exact hk.2 b (heap_lt h4) (hne b cs _ h4 (by decide))
    exact ⟨h3.is h1, h3⟩) hn
  exact hn2.at ho2
def standP (out : List Int) (n : Gr.Nd) : Bool := !out.contains n.id && n.frm.all fun f => out.contains f
theorem standP_eq (out : List Int) (n : Gr.Nd) : standP out n = (!decide (n.id ∈ out) && !n.frm.any fun f => !decide (f ∈ out)) := by
  unfold standP
  rw [List.not_any_eq_all_not]
  simp
theorem standP_next (l : List Gr.Nd) (out : List Int) : Gr.nextS l out = (l.find? (standP out)).map (·.id) := rfl
def sliceLen : Value → Nat
  | .slice _ n _ => n
  | _ => 0
end Go.Proofs.YthlmmfljeblflaaGreatDoor

/-! graph.sort. -/
namespace Go.Proofs.YthlmmfljeblflaaGreatDoor
set_option linter.unusedSimpArgs false
set_option linter.unusedVariables false
open Go.RowKit Ga
set_option maxRecDepth 100000

def firstScope : Code → Option Code
  | .scope c => some c
  | .seq a b => match firstScope a with
    | some c => some c
    | none => firstScope b
  | .block _ c => firstScope c
  | .loop c => firstScope c
  | _ => none
/-- the code from the label on -/
def afterSkip : Option Code → Code
  | some (.seq .skip r) => r
  | _ => .skip
noncomputable def tail76 : Code := afterSkip ((Tryz.f62.body.bind firstScope).bind fun c => findLabel c 0)
theorem wp_scope_jumps1' {P : Program} {a : Act} {w : World} {Q : Exit → Act → World → Prop} {c rest : Code} (l : Nat) (J : Act → World → Prop) (μ : Act → World → Nat) (hf : findLabel c l = some (.seq .skip rest))
    (pass : ∀ a w, J a w → rest.wp P (Exit.jump l (fun a' w' => J a' w' ∧ μ a' w' < μ a w) Q) a w)
    (first : (∀ a w, J a w → rest.wp P (Exit.jump l J Q) a w) → c.wp P (Exit.jump l J Q) a w) : (Code.scope c).wp P Q a w :=
  wp_scope_jumps l J μ hf (first fun a w h => Code.wp_mono (fun e a' w' hq => by
    cases e with
    | goto l' => exact ⟨hq.1, hq.2.1⟩
    | _ => exact hq) (pass a w h)) (fun a w h => wp_skip_seq (pass a w h))
def frame76 (vn : Value) (B C : Nat) (u : Nat → Value) : Act := { tmps := #[vn, u 1, .slice none 0 0, .pointer (some ⟨B, 0, none⟩), .pointer (some ⟨C, 0, none⟩), u 5, u 6, u 7, u 8, u 9, u 10, u 11, u 12, u 13, u 14, u 15, u 16, u 17, u 18, u 19, u 20, u 21, u 22, u 23, u 24, u 25, u 26, u 27, u 28, u 29, u 30, u 31, u 32, u 33, u 34], defers := [] }
theorem arr35 (t : Array Value) (h : t.size = 35) : t = #[t.getD 0 undef, t.getD 1 undef, t.getD 2 undef, t.getD 3 undef, t.getD 4 undef, t.getD 5 undef, t.getD 6 undef, t.getD 7 undef, t.getD 8 undef, t.getD 9 undef, t.getD 10 undef, t.getD 11 undef, t.getD 12 undef, t.getD 13 undef, t.getD 14 undef, t.getD 15 undef, t.getD 16 undef, t.getD 17 undef, t.getD 18 undef, t.getD 19 undef, t.getD 20 undef, t.getD 21 undef, t.getD 22 undef, t.getD 23 undef, t.getD 24 undef, t.getD 25 undef, t.getD 26 undef, t.getD 27 undef, t.getD 28 undef, t.getD 29 undef, t.getD 30 undef, t.getD 31 undef, t.getD 32 undef, t.getD 33 undef, t.getD 34 undef] := by
  have e : t = (Array.range 35).map fun i => t.getD i undef := by
    refine Array.ext (by simp [h]) fun i h1 h2 => ?_
    simp only [Array.getElem_map, Array.getElem_range]
    rw [Array.getD_eq_getD_getElem?, Array.getElem?_eq_getElem h1]
    rfl
  have e2 : Array.range 35 = #[0, 1, 2, 3, 4, 5, 6, 7, 8, 9, 10, 11, 12, 13, 14, 15, 16, 17, 18, 19, 20, 21, 22, 23, 24, 25, 26, 27, 28, 29, 30, 31, 32, 33, 34] := by decide +kernel
  rw [e2] at e
  exact e.trans (by simp)
structure Frame76 (vn : Value) (B C : Nat) (a : Act) : Prop where
  n : a.tmps.size = 35
  d : a.defers = []
  v : a.tmps[0]? = some vn
  r : a.tmps[2]? = some (.slice none 0 0)
  b : a.tmps[3]? = some (.pointer (some ⟨B, 0, none⟩))
  c : a.tmps[4]? = some (.pointer (some ⟨C, 0, none⟩))
theorem Frame76.get {vn : Value} {B C : Nat} {a : Act} (h : Frame76 vn B C a) : ∃ u, a = frame76 vn B C u := by
  obtain ⟨t, d⟩ := a
  obtain ⟨h1, h2, h3, h4, h5, h6⟩ := h
  simp only at h1 h2 h3 h4 h5 h6
  refine ⟨fun i => t.getD i undef, ?_⟩
  have e := arr35 t h1
  have g : ∀ i v, t[i]? = some v → t.getD i undef = v := fun i v h => by rw [Array.getD_eq_getD_getElem?, h]; rfl
  rw [g 0 _ h3, g 2 _ h4, g 3 _ h5, g 4 _ h6] at e
  unfold frame76
  rw [← e, h2]
/-- what holds at each jump -/
structure NormAt (w w1 : World) (B base : Nat) (vn : Value) (lc : List NdC) (l' : List Gr.Nd) : Prop where
  own : NodesOwn base w1 vn lc
  ins : NodesIn base w1 lc l'
  b : ∃ c, w1.heap[B]? = some (.cells c 29)
  small : Small l'
  l19 : l'.length ≤ 19
def Jump76 (w : World) (B C : Nat) (l : List Gr.Nd) (a' : Act) (w' : World) : Prop := ∃ (w1 : World) (base : Nat) (vn vo : Value) (lc : List NdC) (l' : List Gr.Nd) (out : List Int),
  NormAt w w1 B base vn lc l' ∧ l'.Perm l ∧ Frame76 vn B C a' ∧ SortAt w w1 B C w' vo out ∧ Gr.Ord l' out ∧ Gr.sortG l' (l'.length + 1 - out.length) out = Gr.sortG l' (l'.length + 1) []
def mu76 (B n : Nat) (_ : Act) (w' : World) : Nat := n + 1 - sliceLen ((w'.cell? ⟨B, 0, none⟩).getD undef)
def End76 (w : World) (l : List Gr.Nd) (a' : Act) (w' : World) : Prop := ∃ (v : Value) (l' : List Gr.Nd), a'.tmps[2]? = some v ∧ a'.defers = [] ∧ IntsAt w' v (Gr.sortG l' (l'.length + 1) []) ∧ l'.Perm l ∧ Grew w w'
theorem infoInt1 : (Tryz.prog.info? 3).map (fun i => (i.zero, i.size, i.bytes)) = some (some (.int .i64 0), 1, 8) := by kernel_rfl
theorem encN_one (x : Int) : ∀ u ∈ encN x, u.oneCell' = true := by intro u hu; simp [encN] at hu; subst hu; rfl
theorem int_at (W : World) (x : Int) (t : TypeId) (b : Nat) {c : Array Value} (hc : c = #[.int .i64 x]) (hb : b = W.heap.size) : ∀ j u, (([x] : List Int).flatMap encN)[j]? = some u → (W.alloc (.cells c t)).cell? ⟨b, j, none⟩ = some u := by
  subst hc
  intro j u hu
  rw [new_cells W _ t b hb j]
  simpa [encN] using hu
theorem sortG_stop {l : List Gr.Nd} {out : List Int} (h : Gr.nextS l out = none) : ∀ k, Gr.sortG l k out = out
  | 0 => rfl
  | k + 1 => by rw [Gr.sortG, h]
set_option maxHeartbeats 8000000 in
theorem sort_pass (w w1 W : World) (B C base : Nat) (vn vo : Value) (lc : List NdC) (l l' : List Gr.Nd) (out : List Int) (u : Nat → Value) (Q : Exit → Act → World → Prop)
    (hn : NormAt w w1 B base vn lc l') (hp : l'.Perm l) (hs : SortAt w w1 B C W vo out) (ho : Gr.Ord l' out) (hg : Gr.sortG l' (l'.length + 1 - out.length) out = Gr.sortG l' (l'.length + 1) [])
    (hret : ∀ a' w', End76 w l a' w' → Q .ret a' w') (hjump : ∀ a' w', Jump76 w B C l a' w' → mu76 B l.length a' w' < l.length + 1 - out.length → Q (.goto 0) a' w') :
    Code.wp Tryz.prog tail76 Q (frame76 vn B C u) W := by
  conv => arg 2; whnf
  unfold frame76
  have HN := Lib.hid hn
  have HS := Lib.hid hs
  have HO := Lib.hid ho
  have HG := Lib.hid hg
  have HP := Lib.hid hp
  have HR := Lib.hid hret
  have HJ := Lib.hid hjump
  have hol := ho.le
  have hpl := hp.length_eq
  have hll := hn.l19
  have HPL := Lib.hid hpl
  obtain ⟨a, cap, rfl⟩ : ∃ a cap, vn = .slice a l'.length cap := by
    obtain ⟨a, cap, e⟩ := (OwnAt.rows hn.own encNd_len).len
    rw [Rel.len hn.ins] at e
    exact ⟨a, cap, e⟩
  clear hn hs ho hg hp hret hjump hpl
  go_wp2
  go_loopg [12] l'.length (fun gg s12 wr => ∃ k : Nat, k ≤ l'.length ∧ l'.length - k ≤ gg ∧ s12 = .int .i64 k ∧ Hid (SortAt w w1 B C wr vo out) ∧ Hid (∀ j (hj : j < l'.length), j < k → standP out l'[j] = false))
  case atStart => exact ⟨0, Nat.zero_le _, by omega, rfl, HS, Lib.hid fun j _ h => by omega⟩
  case round =>
    obtain ⟨k, hk, hgg, rfl, HS2, HNO⟩ := hrel
    by_cases hlt : k < l'.length
    · obtain ⟨a', cap', e, -, hx⟩ := (HS2.out.nodes HN.out.own HN.out.ins HN.out.b).openC
      cases e
      obtain ⟨b, off, c, rfl, hb, hn, c0, c1, c2, c3, c4, c5, c6, c7, c8, c9, c10, c11, c12⟩ := hx k hlt
      clear hx
      have hst := standP_eq out l'[k]
      generalize hy : l'[k] = y at *
      have HY := Lib.hid hy
      have hid := hn.id
      have HNc := Lib.hid hn
      have hcB := cell_of (o := 0) HS2.out.b
      have hcC := cell_of (o := 0) HS2.out.c
      have hfB := frozen_of (o := 0) HS2.out.b
      simp at hcB hcC
      have hpB := Pre.mk (heap_lt HS2.out.b)
      have hpC := Pre.mk (heap_lt HS2.out.c)
      have hrows : IntsAt wr vo out := HS2.out.own.rows encN_len
      have HP2 := Lib.hid fun W (g : Grew wr W) => containsFn_any c.vf y.frm 102 #[.pointer (some ⟨C, 0, none⟩)] (fun x => !decide (x ∈ out)) W (HNc.out.f.grew g) enters102 (fun W' x g' => sort2_pred out vo B C wr hrows hpB hcB hpC hcC W' x (g.trans g'))
      have eg := enters101
      obtain ⟨ao, co, rfl⟩ := hrows.len
      obtain ⟨cid, kind, af, cf, ap, cp, par, r0, r1, r2, r3, r4, r5, r6, r7, rfl⟩ := HNc.out.lit
      simp only at c0 c1 c2 c3 c4 c5 c6 c7 c8 c9 c10 c11 c12 hid HP2
      rw [hid] at hst
      have hp1 : ∀ W, Grew wr W → Calls Tryz.prog 101 #[.int .i64 cid, .pointer (some ⟨B, 0, none⟩)] W (Gives (.bool (decide (cid ∈ out))) W) := fun W g => sort1_pred out _ B wr hrows hpB hcB W cid g
      clear hn hrows hy
      generalize hq1 : decide (cid ∈ out) = q1 at *
      have HP1 := Lib.hid hp1
      have HQ1 := Lib.hid hq1
      clear hq1 hp1
      generalize hq2 : (y.frm.any fun f => !decide (f ∈ out)) = q2 at *
      have HQ2 := Lib.hid hq2
      clear hq2
      have HID := Lib.hid hid
      have HST := Lib.hid hst
      clear hid hst
      cases q1 with
      | true =>
        go_wp2_with (go_at_fn 101; go_loud (refine (HP1.out _ (by repeat (first | with_reducible exact Grew.refl _ | apply Grew.more | apply Grew.alloc | apply Grew.drew | apply Grew.drewN))).mono ?_; rintro e w2 ⟨rfl, R3, n3, rfl⟩))
        go_roundg (l'.length - (k + 1))
        case measure => omega
        case rel => exact ⟨k + 1, by omega, by omega, by go_num, Lib.hid (HS2.out.grew (by repeat (first | with_reducible exact Grew.refl _ | apply Grew.more | apply Grew.alloc | apply Grew.drew | apply Grew.drewN))), Lib.hid fun j hj h => by
          rcases Nat.lt_or_ge j k with h1 | h1
          · exact HNO.out j hj h1
          · obtain rfl : j = k := by omega
            rw [HY.out, HST.out]
            rfl⟩
      | false =>
        cases q2 with
        | true =>
          go_wp2_with (first
            | (go_at_fn 101; refine (HP1.out _ (by repeat (first | with_reducible exact Grew.refl _ | apply Grew.more | apply Grew.alloc | apply Grew.drew | apply Grew.drewN))).mono ?_; rintro e w2 ⟨rfl, R3, n3, rfl⟩)
            | (go_at_call 99; refine (HP2.out _ (by repeat (first | with_reducible exact Grew.refl _ | apply Grew.more | apply Grew.alloc | apply Grew.drew | apply Grew.drewN))).mono ?_; rintro e w2 ⟨rfl, R4, n4, rfl⟩))
          go_roundg (l'.length - (k + 1))
          case measure => omega
          case rel => exact ⟨k + 1, by omega, by omega, by go_num, Lib.hid (HS2.out.grew (by repeat (first | with_reducible exact Grew.refl _ | apply Grew.more | apply Grew.alloc | apply Grew.drew | apply Grew.drewN))), Lib.hid fun j hj h => by
            rcases Nat.lt_or_ge j k with h1 | h1
            · exact HNO.out j hj h1
            · obtain rfl : j = k := by omega
              rw [HY.out, HST.out]
              rfl⟩
        | false =>
          have hnx : Gr.nextS l' out = some cid := by
            have hf : l'.find? (standP out) = some y := List.find?_eq_some_iff_getElem.2 ⟨by rw [HST.out]; rfl, k, hlt, HY.out, fun j hj => by rw [HNO.out j (by omega) hj]; rfl⟩
            rw [standP_next, hf, Option.map_some, HID.out]
          have HNX := Lib.hid hnx
          have hlen : out.length + 1 ≤ 1000000 := by omega
          clear hnx
          go_wp2_with (first
            | (go_at_fn 101; refine (HP1.out _ (by repeat (first | with_reducible exact Grew.refl _ | apply Grew.more | apply Grew.alloc | apply Grew.drew | apply Grew.drewN))).mono ?_; rintro e w2 ⟨rfl, R3, n3, rfl⟩)
            | (go_at_call 99; refine (HP2.out _ (by repeat (first | with_reducible exact Grew.refl _ | apply Grew.more | apply Grew.alloc | apply Grew.drew | apply Grew.drewN))).mono ?_; rintro e w2 ⟨rfl, R4, n4, rfl⟩)
            | (at_builtin; go_loud (refine wpList_ownK (w0 := w) rfl (.tmp 28) (.tmp 31) 29 _ _ _ _ [cid] rfl Tryz.underlying29 infoInt1 rfl (by decide) encN_len encN_one rfl (OwnAt.grew HS2.out.own (by repeat (first | with_reducible exact Grew.refl _ | apply Grew.more | apply Grew.alloc | apply Grew.drew | apply Grew.drewN))) (HS2.out.g.trans (by repeat (first | with_reducible exact Grew.refl _ | apply Grew.more | apply Grew.alloc | apply Grew.drew | apply Grew.drewN))) rfl (int_at _ _ _ _ rfl (by simp [go_sem])) (by simpa using hlen) (by decide) (by simp) ?_; intro v5 W5 hA; (have hs5 := (HS2.out.grew (by repeat (first | with_reducible exact Grew.refl _ | apply Grew.more | apply Grew.alloc | apply Grew.drew | apply Grew.drewN))).push hA); obtain ⟨hB5, hS5⟩ := hs5; obtain ⟨b5, c5, rfl⟩ := own_some' hA.2.1 (by simp); (have cB5 := cell_of (o := 0) hB5); (have fB5 := frozen_of (o := 0) hB5); (have pB5 := Pre.mk (heap_lt hB5)); simp at cB5; simp only [List.length_append, List.length_cons, List.length_nil, Nat.zero_add] at hS5; (have HS5 := Lib.hid hS5); clear hS5 hB5 hA)))
          go_step3
          have hmu : mu76 B l.length { tmps := #[], defers := [] } (W5.setCell ⟨B, 0, none⟩ (.slice (some ⟨b5, 0, none⟩) (out.length + 1) c5)) < l.length + 1 - out.length := by
            unfold mu76
            rw [cell_of (o := 0) HS5.out.b]
            simp [sliceLen]
            have := HPL.out
            omega
          have hgg2 : Gr.sortG l' (l'.length + 1 - (out ++ [cid]).length) (out ++ [cid]) = Gr.sortG l' (l'.length + 1) [] := by
            rw [← HG.out, List.length_append, show l'.length + 1 - out.length = (l'.length - out.length) + 1 by omega, Gr.sortG, HNX.out]
            simp
          exact HJ.out _ _ ⟨w1, base, _, _, lc, l', out ++ [cid], HN.out, HP.out, ⟨rfl, rfl, rfl, rfl, rfl, rfl⟩, HS5.out, HO.out.step HNX.out, hgg2⟩ hmu
    · obtain rfl : k = l'.length := by omega
      have hcB := cell_of (o := 0) HS2.out.b
      simp at hcB
      have hpB := Pre.mk (heap_lt HS2.out.b)
      have hrows := HS2.out.own.rows encN_len
      obtain ⟨ao, co, rfl⟩ := hrows.len
      have HRW := Lib.hid hrows
      clear hrows
      have hnx : Gr.nextS l' out = none := by
        rw [standP_next, List.find?_eq_none.2 fun x hx => by
          obtain ⟨j, hj, rfl⟩ := List.mem_iff_getElem.1 hx
          rw [HNO.out j hj hj]
          simp]
        rfl
      have hend : out = Gr.sortG l' (l'.length + 1) [] := by rw [← HG.out, sortG_stop hnx]
      have HE := Lib.hid hend
      clear hnx hend
      go_wp2
      refine HR.out _ _ ⟨_, l', rfl, rfl, ?_, HP.out, HS2.out.g⟩
      rw [← HE.out]
      exact HRW.out

/-- the order of the nodes by their numbers -/
def SortGives (l : List Gr.Nd) (w : World) (e : Ending) (w' : World) : Prop := ∃ (v : Value) (l' : List Gr.Nd), e = .returned v ∧ IntsAt w' v (Gr.sortG l' (l'.length + 1) []) ∧ l'.Perm l ∧ Grew w w'
set_option maxHeartbeats 8000000 in
theorem sort_any (v : Value) (l : List Gr.Nd) (w : World) (hv : NodesAt w v l) (hs : Small l) (hl : l.length ≤ 19) : Calls Tryz.prog 62 #[v] w (SortGives l w) := by
  have HM := Lib.hid fun W (g : Grew w W) => norm_any v l W (hv.grew g) hs hl
  have HS := Lib.hid hs
  obtain ⟨a, cap, rfl, hm, -⟩ := hv.openC
  clear hv hs
  go_enter Tryz.func62, Tryz.ntmps62
  go_wp2
  refine wp_scope_jumps1' 0 (Jump76 w w.heap.size (w.heap.size + 1) l) (mu76 w.heap.size l.length) rfl ?_ ?_
  · rintro a1 W ⟨w1, base, vn, vo, lc, l', out, hn, hp, hf, hs, ho, hg⟩
    obtain ⟨u, rfl⟩ := hf.get
    have hle := ho.le
    refine sort_pass w w1 W _ _ base vn vo lc l l' out u _ hn hp hs ho hg (fun a' w' he => ?_) (fun a' w' hj hmu => ⟨rfl, hj, ?_⟩)
    · obtain ⟨v, l2, h1, h2, h3, h4, h5⟩ := he
      refine bodyPost_ret (v := v) ?_ h2 ⟨v, l2, rfl, h3, h4, h5⟩
      simp [results, Tryz.results62, go_sem]
      rw [h1]
      rfl
    · have e : mu76 w.heap.size l.length (frame76 vn w.heap.size (w.heap.size + 1) u) W = l.length + 1 - out.length := by
        unfold mu76
        rw [cell_of (o := 0) hs.b]
        obtain ⟨ao, co, e⟩ := (hs.own.rows encN_len).len
        rw [e]
        rfl
      rw [e]
      exact hmu
  · intro hfirst
    go_wp2_with (go_at_call 33; go_loud (refine (HM.out _ (by repeat (first | with_reducible exact Grew.refl _ | apply Grew.more | apply Grew.alloc | apply Grew.drew | apply Grew.drewN))).mono ?_; rintro e w1 ⟨vn, lc, l', rfl, ho, hi, hp, -, R3, n3, rfl⟩; obtain ⟨an, cn, rfl⟩ := (OwnAt.rows ho encNd_len).len; (have HO := Lib.hid ho); (have HI := Lib.hid hi); (have HP := Lib.hid hp); clear ho hi hp))
    go_step3
    have hB : (((w.alloc (.cells #[.slice none 0 0] 29)).alloc (.cells #[.func (.func 101) #[] #[.pointer (some ⟨w.heap.size, 0, none⟩)]] 156)).more R3 n3).heap[w.heap.size]? = some (.cells #[.slice none 0 0] 29) := grew_heap (by repeat (first | with_reducible exact Grew.refl _ | apply Grew.more | apply Grew.alloc | apply Grew.drew | apply Grew.drewN)) (heap_new_at w _ _ rfl)
    have hC : (((w.alloc (.cells #[.slice none 0 0] 29)).alloc (.cells #[.func (.func 101) #[] #[.pointer (some ⟨w.heap.size, 0, none⟩)]] 156)).more R3 n3).heap[w.heap.size + 1]? = some (.cells #[.func (.func 101) #[] #[.pointer (some ⟨w.heap.size, 0, none⟩)]] 156) := grew_heap (Grew.more (Grew.refl _) R3 n3) (heap_new_at (w.alloc (.cells #[.slice none 0 0] 29)) _ _ (by rw [World.size_alloc]))
    rename_i hK
    refine hK _ _ (hfirst _ _ ⟨_, _, .slice an lc.length cn, .slice none 0 0, lc, l', [], ⟨HO.out, HI.out, ⟨_, hB⟩, fun n hn => HS.out n (HP.out.mem_iff.1 hn), by rw [HP.out.length_eq]; exact hl⟩, HP.out, ?_,
      ⟨Keep.ofGrew (Grew.refl _), by repeat (first | with_reducible exact Grew.refl _ | apply Grew.more | apply Grew.alloc | apply Grew.drew | apply Grew.drewN), OwnAt.nil _, (fun q h => by cases h), hB, hC, Nat.le_refl _⟩, Gr.Ord.nil _, by simp⟩)
    exact ⟨rfl, rfl, rfl, rfl, rfl, rfl⟩
end Go.Proofs.YthlmmfljeblflaaGreatDoor

/-! What the library's sorts leave of a slice of one's own, whatever its elements. -/
namespace Go.Proofs.YthlmmfljeblflaaGreatDoor
set_option linter.unusedSimpArgs false
set_option linter.unusedVariables false
open Go.RowKit Ga
set_option maxRecDepth 100000

section
variable {α : Type} [Inhabited α] {enc : α → List Value} {k : Nat} {e : TypeId}
end
end Go.Proofs.YthlmmfljeblflaaGreatDoor

/-! The library's sort at entries, as cell uses it. -/
namespace Go.Proofs.YthlmmfljeblflaaGreatDoor
set_option linter.unusedSimpArgs false
set_option linter.unusedVariables false
open Go.RowKit Ga
set_option maxRecDepth 100000

/-- an entry whose place is one -/
abbrev Sm := { x : Tab.En // There x }
instance : Inhabited Sm := ⟨⟨⟨0, 0, (0, 0), (0, 0)⟩, ⟨by decide, by decide⟩, ⟨by decide, by decide⟩⟩⟩
end Go.Proofs.YthlmmfljeblflaaGreatDoor

/-! cell: some, All. -/
namespace Go.Proofs.YthlmmfljeblflaaGreatDoor
set_option linter.unusedSimpArgs false
set_option linter.unusedVariables false
open Go.RowKit Ga
set_option maxRecDepth 100000

theorem un_eq {m : List Tab.En} (hu : m.Pairwise fun a b => Tab.num a ≠ Tab.num b) {x y : Tab.En} (hx : x ∈ m) (hy : y ∈ m) (h : Tab.num x = Tab.num y) : x = y := by
  obtain ⟨i, hi, rfl⟩ := List.mem_iff_getElem.1 hx
  obtain ⟨j, hj, rfl⟩ := List.mem_iff_getElem.1 hy
  have hp := List.pairwise_iff_getElem.1 hu
  rcases Nat.lt_trichotomy i j with h3 | h3 | h3
  · exact absurd h (hp i j hi hj h3)
  · subst h3; rfl
  · exact absurd h.symm (hp j i hj hi h3)
/-- what has come up so far -/
structure Seen (D : DataW Unit) (m lo : List Tab.En) (left : Lit → Bool) : Prop where
  un : lo.Pairwise fun a b => Tab.num a ≠ Tab.num b
  sub : ∀ x ∈ lo, x ∈ m
  all : ∀ x ∈ m, ∀ kl, keyOf Tryz.prog 134 (ceK x.node x.key) = some kl → left kl = false → x ∈ lo
  out : ∀ x ∈ lo, ∀ kl, keyOf Tryz.prog 134 (ceK x.node x.key) = some kl → left kl = false
  has : ∀ kl, left kl = true → Maps.has D kl = true
theorem Seen.start {D : DataW Unit} {m : List Tab.En} (h : TabD D m) : Seen D m [] (Maps.has D) :=
  ⟨List.Pairwise.nil, fun x hx => (by cases hx), fun x hx kl hk hl => (by rw [(h.at' x hx kl hk).1] at hl; cases hl), fun x hx => (by cases hx), fun kl h => h⟩
theorem Seen.next {D : DataW Unit} {m lo : List Tab.En} {left : Lit → Bool} (h : Seen D m lo left) (hD : TabD D m) {n k : Int} {c0 c1 : Val} {kl : Lit} {y : DataW Unit × List MemPlace} (hk : keyOf Tryz.prog 134 (ceK n k) = some kl) (hl : left kl = true) (hR : ceR (cev c0 c1) = some y) (hat : ∀ zd, D.atKey kl zd = y.1) :
    Seen D m (lo ++ [⟨n, k, c0, c1⟩]) (fun z => left z && !z.sameKey kl) := by
  obtain ⟨p, hp, hpk⟩ := hD.has kl (h.has kl hl)
  obtain ⟨e1, e2⟩ := ceK_inj (cell_law.inj hpk hk)
  have h3 := (hD.at' p hp kl hpk).2 (.agg [])
  rw [hat, ← Option.some.inj hR] at h3
  obtain ⟨e3, e4⟩ := ceDat_inj h3
  obtain ⟨pn, pk, p0, p1⟩ := p
  simp only at e1 e2 e3 e4
  subst e1 e2 e3 e4
  have hself : kl.sameKey kl = true := WideAt.sameKey_self (cell_law.key hk)
  refine ⟨?_, fun x hx => ?_, fun x hx k2 hk2 hl2 => ?_, fun x hx k2 hk2 => ?_, fun k2 hk2 => ?_⟩
  · rw [List.pairwise_append]
    refine ⟨h.un, List.pairwise_singleton _ _, fun a ha b hb e => ?_⟩
    rw [List.mem_singleton] at hb
    subst hb
    obtain ⟨ka, hka⟩ := (hD.there a (h.sub a ha)).kl
    have h5 := h.out a ha ka hka
    rw [(key_other (hD.there a (h.sub a ha)) (hD.there _ hp) hka hk).2 e, hl] at h5
    cases h5
  · rcases List.mem_append.1 hx with h1 | h1
    · exact h.sub x h1
    · rw [List.mem_singleton] at h1
      subst h1
      exact hp
  · cases hq : left k2
    · exact List.mem_append_left _ (h.all x hx k2 hk2 hq)
    · rw [hq] at hl2
      have h6 : k2.sameKey kl = true := by simpa using hl2
      have h7 : k2 = kl := WideAt.sameKey_eq h6
      subst h7
      have h8 := un_eq hD.un hx hp ((key_other (hD.there x hx) (hD.there _ hp) hk2 hk).1 rfl)
      rw [h8]
      exact List.mem_append_right _ (List.mem_singleton.2 rfl)
  · rcases List.mem_append.1 hx with h1 | h1
    · rw [h.out x h1 k2 hk2]
      rfl
    · rw [List.mem_singleton] at h1
      subst h1
      have h9 : k2 = kl := Option.some.inj (hk2.symm.trans hk)
      subst h9
      rw [hself]
      simp
  · simp only [Bool.and_eq_true] at hk2
    exact h.has k2 hk2.1
theorem Seen.done {D : DataW Unit} {m lo : List Tab.En} {left : Lit → Bool} (h : Seen D m lo left) (hD : TabD D m) (h0 : ∀ kl, left kl = false) : lo.Perm m := by
  have hn : ∀ {l : List Tab.En}, (l.Pairwise fun a b => Tab.num a ≠ Tab.num b) → l.Nodup := fun hp => by
    rw [List.nodup_iff_pairwise_ne]
    exact hp.imp fun h e => h (by rw [e])
  rw [List.perm_ext_iff_of_nodup (hn h.un) (hn hD.un)]
  intro x
  refine ⟨h.sub x, fun hx => ?_⟩
  obtain ⟨kl, hk⟩ := (hD.there x hx).kl
  exact h.all x hx kl hk (h0 kl)
end Go.Proofs.YthlmmfljeblflaaGreatDoor

/-! What tables do, in plain lists. -/
namespace Go.Proofs.YthlmmfljeblflaaGreatDoor
set_option linter.unusedSimpArgs false
set_option linter.unusedVariables false
open Go.RowKit Ga
set_option maxRecDepth 100000

/-- unlike places -/
abbrev UnE (m : List Tab.En) : Prop := m.Pairwise fun a b => Tab.num a ≠ Tab.num b
abbrev SoE (m : List Tab.En) : Prop := m.Pairwise fun a b => Tab.num a ≤ Tab.num b
/-- by places there is just one order -/
theorem so_unique {m s s' : List Tab.En} (hu : UnE m) (h1 : s.Perm m) (h2 : s'.Perm m) (o1 : SoE s) (o2 : SoE s') : s = s' := by
  refine List.Perm.eq_of_pairwise (le := fun a b => Tab.num a ≤ Tab.num b) (fun a b ha hb e1 e2 => ?_) o1 o2 (h1.trans h2.symm)
  exact un_eq hu (h1.mem_iff.1 ha) (h2.mem_iff.1 hb) (by omega)
/-- is it asked for? -/
def ofP (nd : Int) (gs : List Int) (x : Tab.En) : Bool := decide (x.node = nd) && decide (x.key % 8 ∈ gs)
end Go.Proofs.YthlmmfljeblflaaGreatDoor

/-! cell: Group, Of. -/
namespace Go.Proofs.YthlmmfljeblflaaGreatDoor
set_option linter.unusedSimpArgs false
set_option linter.unusedVariables false
open Go.RowKit Ga
set_option maxRecDepth 100000

end Go.Proofs.YthlmmfljeblflaaGreatDoor

/-! What a table answers, and that this makes it up. -/
namespace Go.Proofs.YthlmmfljeblflaaGreatDoor
set_option linter.unusedSimpArgs false
set_option linter.unusedVariables false
open Go.RowKit Ga
set_option maxRecDepth 100000

/-- what is kept at a place -/
def getT (m : List Tab.En) (n k : Int) : Val × Val := match m.find? fun x => Tab.num x == n * 64 + k with
  | none => ((0, 0), (0, 0))
  | some x => (x.c0, x.c1)
theorem getT_no {m : List Tab.En} {n k : Int} (h : ∀ x ∈ m, Tab.num x ≠ n * 64 + k) : getT m n k = ((0, 0), (0, 0)) := by
  unfold getT
  rw [List.find?_eq_none.2 fun x hx => by simpa using h x hx]
theorem getT_is {m : List Tab.En} (hu : UnE m) {x : Tab.En} (hx : x ∈ m) {n k : Int} (h : Tab.num x = n * 64 + k) : getT m n k = (x.c0, x.c1) := by
  unfold getT
  cases hf : m.find? fun x => Tab.num x == n * 64 + k with
  | none =>
    have := List.find?_eq_none.1 hf x hx
    simp [h] at this
  | some y =>
    have h1 := List.find?_some hf
    have h2 := List.mem_of_find?_eq_some hf
    have h3 : Tab.num y = n * 64 + k := by simpa using h1
    rw [un_eq hu h2 hx (h3.trans h.symm)]
theorem getT_cases (m : List Tab.En) (n k : Int) : (∃ x ∈ m, Tab.num x = n * 64 + k ∧ getT m n k = (x.c0, x.c1)) ∨ ((∀ x ∈ m, Tab.num x ≠ n * 64 + k) ∧ getT m n k = ((0, 0), (0, 0))) := by
  cases hf : m.find? fun x => Tab.num x == n * 64 + k with
  | none =>
    have := List.find?_eq_none.1 hf
    refine .inr ⟨fun x hx => by simpa using this x hx, ?_⟩
    unfold getT
    rw [hf]
  | some y =>
    have h1 := List.find?_some hf
    have h2 := List.mem_of_find?_eq_some hf
    refine .inl ⟨y, h2, by simpa using h1, ?_⟩
    unfold getT
    rw [hf]
theorem nz_no {x : Tab.En} (h : Tab.nz x = false) : x.c0 = (0, 0) ∧ x.c1 = (0, 0) := by
  unfold Tab.nz at h
  simpa using h
theorem nz_get {x : Tab.En} (h : Tab.nz x = true) : (x.c0, x.c1) ≠ (((0, 0), (0, 0)) : Val × Val) := by
  unfold Tab.nz at h
  intro e
  injection e with e1 e2
  rw [e1, e2] at h
  simp at h
theorem setT_mem {m : List Tab.En} {x y : Tab.En} (h : y ∈ Tab.setT m x) : y = x ∨ (y ∈ m ∧ Tab.num y ≠ Tab.num x) := by
  unfold Tab.setT at h
  split at h
  · rcases List.mem_cons.1 h with h | h
    · exact .inl h
    · exact .inr ⟨(List.mem_filter.1 h).1, by simpa using (List.mem_filter.1 h).2⟩
  · exact .inr ⟨(List.mem_filter.1 h).1, by simpa using (List.mem_filter.1 h).2⟩
theorem setT_un {m : List Tab.En} (h : UnE m) (x : Tab.En) : UnE (Tab.setT m x) := by
  unfold Tab.setT
  split
  · refine List.pairwise_cons.2 ⟨fun y hy e => ?_, h.filter _⟩
    have := (List.mem_filter.1 hy).2
    simp [e] at this
  · exact h.filter _
theorem getT_set {m : List Tab.En} (hu : UnE m) (x : Tab.En) (n k : Int) : getT (Tab.setT m x) n k = if Tab.num x = n * 64 + k then (x.c0, x.c1) else getT m n k := by
  split
  · rename_i h
    cases hz : Tab.nz x
    · obtain ⟨e1, e2⟩ := nz_no hz
      rw [e1, e2]
      refine getT_no fun y hy e => ?_
      unfold Tab.setT at hy
      rw [hz, if_neg (by simp)] at hy
      have := (List.mem_filter.1 hy).2
      simp [e, h] at this
    · refine getT_is (setT_un hu x) ?_ h
      unfold Tab.setT
      rw [if_pos hz]
      exact List.mem_cons_self ..
  · rename_i h
    rcases getT_cases m n k with ⟨y, hy, h1, h2⟩ | ⟨h1, h2⟩
    · rw [h2]
      refine getT_is (setT_un hu x) ?_ h1
      have hf : y ∈ m.filter fun y => Tab.num y != Tab.num x := List.mem_filter.2 ⟨hy, by rw [h1, bne_iff_ne]; exact fun e => h e.symm⟩
      unfold Tab.setT
      split
      · exact List.mem_cons_of_mem _ hf
      · exact hf
    · rw [h2]
      refine getT_no fun y hy e => ?_
      rcases setT_mem hy with rfl | ⟨h3, _⟩
      · exact h e
      · exact h1 y h3 e
/-- a table: unlike places, none empty, each one right -/
structure OkT (m : List Tab.En) : Prop where
  un : UnE m
  nz : ∀ x ∈ m, Tab.nz x = true
  ok : ∀ x ∈ m, okEn x = true
theorem okEn_there {x : Tab.En} (h : okEn x = true) : There x := by
  unfold okEn at h
  rw [Bool.and_eq_true] at h
  exact thereB_iff.1 h.1
theorem OkT.there {m : List Tab.En} (h : OkT m) : ∀ x ∈ m, There x := fun x hx => okEn_there (h.ok x hx)
theorem OkT.nil : OkT [] := ⟨List.Pairwise.nil, fun x hx => (by cases hx), fun x hx => (by cases hx)⟩
theorem OkT.set {m : List Tab.En} (h : OkT m) {x : Tab.En} (hx : okEn x = true) : OkT (Tab.setT m x) := by
  refine ⟨setT_un h.un x, fun y hy => ?_, fun y hy => ?_⟩
  · unfold Tab.setT at hy
    split at hy
    · rcases List.mem_cons.1 hy with rfl | h2
      · assumption
      · exact h.nz y (List.mem_filter.1 h2).1
    · exact h.nz y (List.mem_filter.1 hy).1
  · rcases setT_mem hy with rfl | ⟨h2, _⟩
    · exact hx
    · exact h.ok y h2
theorem OkT.filter {m : List Tab.En} (h : OkT m) (p : Tab.En → Bool) : OkT (m.filter p) := ⟨h.un.filter _, fun x hx => h.nz x (List.mem_filter.1 hx).1, fun x hx => h.ok x (List.mem_filter.1 hx).1⟩
theorem OkT.new {l : List Tab.En} (h : newOk l = true) : OkT (Tab.newT l) := by
  have ho := Tab.newT_ok l
  unfold newOk at h
  rw [List.all_eq_true] at h
  exact ⟨ho.un, ho.nz, fun x hx => h x (ho.sub x hx)⟩
/-- who answers alike keeps alike -/
theorem OkT.perm {m m' : List Tab.En} (h : OkT m) (h' : OkT m') (he : ∀ n k : Int, 0 ≤ n → n < 8 → 0 ≤ k → k < 64 → getT m n k = getT m' n k) : m.Perm m' := by
  have hn : ∀ {l : List Tab.En}, UnE l → l.Nodup := fun hp => by
    rw [List.nodup_iff_pairwise_ne]
    exact hp.imp fun h e => h (by rw [e])
  have half : ∀ {m m' : List Tab.En}, OkT m → OkT m' → (∀ n k : Int, 0 ≤ n → n < 8 → 0 ≤ k → k < 64 → getT m n k = getT m' n k) → ∀ x ∈ m, x ∈ m' := by
    intro m m' h h' he x hx
    have ht := h.there x hx
    unfold There at ht
    have e1 := getT_is h.un hx (n := x.node) (k := x.key) rfl
    have e2 := he x.node x.key (by omega) (by omega) (by omega) (by omega)
    rcases getT_cases m' x.node x.key with ⟨y, hy, h1, h2⟩ | ⟨h1, h2⟩
    · have hy' := h'.there y hy
      obtain ⟨q1, q2⟩ := (hy'.inj (h.there x hx)).1 (h1.trans rfl)
      rw [e1, h2] at e2
      injection e2 with e3 e4
      obtain ⟨a, b, c, d⟩ := x
      obtain ⟨a', b', c', d'⟩ := y
      simp only at q1 q2 e3 e4
      subst q1 q2 e3 e4
      exact hy
    · rw [e1, h2] at e2
      exact absurd e2 (nz_get (h.nz x hx))
  rw [List.perm_ext_iff_of_nodup (hn h.un) (hn h'.un)]
  exact fun x => ⟨half h h' he x, half h' h (fun n k a b c d => (he n k a b c d).symm) x⟩
end Go.Proofs.YthlmmfljeblflaaGreatDoor

/-! A program that runs for a record, on what is kept: plain laws. -/
namespace Go.Proofs.YthlmmfljeblflaaGreatDoor
set_option linter.unusedSimpArgs false
set_option linter.unusedVariables false
open Go.RowKit Ga
set_option maxRecDepth 100000

abbrev zer : Val × Val := ((0, 0), (0, 0))
/-- what a program makes of two cells and a value -/
def runC (p : List Val) (c : Val × Val) (v : Val) : Vm.Res := Vm.each p ⟨[], c.1, c.2, 0⟩ [v]
/-- the code, what is put out, what is kept then -/
def runT (m : List Tab.En) (nd : Int) (p : List Val) (ky : Int) (v : Val) : Int × List Val × List Tab.En :=
  if (thereB nd ky && (thereB 0 ky && rightV v)) = false then (1, [], m)
  else if Vm.safe p = false then (9, [], m)
  else (0, (runC p (getT m nd ky) v).out, Tab.setT m ⟨nd, ky, (runC p (getT m nd ky) v).c0, (runC p (getT m nd ky) v).c1⟩)
theorem zer_right : rightV ((0, 0) : Val) = true := Vm.right_of (by decide) (by decide)
theorem getT_right {m : List Tab.En} (h : OkT m) (n k : Int) : rightV (getT m n k).1 = true ∧ rightV (getT m n k).2 = true := by
  rcases getT_cases m n k with ⟨x, hx, _, e⟩ | ⟨_, e⟩
  · rw [e]
    have := h.ok x hx
    unfold okEn at this
    simp only [Bool.and_eq_true] at this
    exact this.2
  · rw [e]
    exact ⟨zer_right, zer_right⟩
theorem runT_code (m : List Tab.En) (nd : Int) (p : List Val) (ky : Int) (v : Val) : (runT m nd p ky v).1 = if (thereB nd ky && (thereB 0 ky && rightV v)) = false then 1 else if Vm.safe p = false then 9 else 0 := by
  unfold runT
  split
  · rfl
  · split <;> rfl
/-- what is kept at another place stays -/
theorem runT_other {m : List Tab.En} (h : OkT m) {nd : Int} {p : List Val} {ky : Int} {v : Val} {n k : Int} (hne : nd * 64 + ky ≠ n * 64 + k) : getT (runT m nd p ky v).2.2 n k = getT m n k := by
  unfold runT
  split
  · rfl
  · split
    · rfl
    · simp only
      rw [getT_set h.un]
      exact if_neg hne
theorem runT_self {m : List Tab.En} (h : OkT m) {nd : Int} {p : List Val} {ky : Int} {v : Val} (h0 : (runT m nd p ky v).1 = 0) : getT (runT m nd p ky v).2.2 nd ky = ((runC p (getT m nd ky) v).c0, (runC p (getT m nd ky) v).c1) ∧ (runT m nd p ky v).2.1 = (runC p (getT m nd ky) v).out := by
  unfold runT at h0 ⊢
  split
  · rw [if_pos (by assumption)] at h0; cases h0
  · rw [if_neg (by assumption)] at h0
    split
    · rw [if_pos (by assumption)] at h0; cases h0
    · simp only
      rw [getT_set h.un]
      exact ⟨if_pos rfl, trivial⟩
end Go.Proofs.YthlmmfljeblflaaGreatDoor

/-! snap: all, New, Epoch, Missing. -/
namespace Go.Proofs.YthlmmfljeblflaaGreatDoor
set_option linter.unusedSimpArgs false
set_option linter.unusedVariables false
open Go.RowKit Ga
set_option maxRecDepth 100000

def SlLen (n : Nat) (v : Value) (_ : World) : Prop := ∃ a c, v = .slice a n c
theorem SlLen.st (n : Nat) : ∀ v w w', SlLen n v w → Grew w w' → SlLen n v w' := fun _ _ _ h _ => h
end Go.Proofs.YthlmmfljeblflaaGreatDoor

/-! remap.Fits; pack.entries. -/
namespace Go.Proofs.YthlmmfljeblflaaGreatDoor
set_option linter.unusedSimpArgs false
set_option linter.unusedVariables false
open Go.RowKit Ga
set_option maxRecDepth 100000

end Go.Proofs.YthlmmfljeblflaaGreatDoor
