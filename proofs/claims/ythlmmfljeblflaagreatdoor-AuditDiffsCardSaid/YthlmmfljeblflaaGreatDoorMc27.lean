import Derived.Test.YthlmmfljeblflaaGreatDoorMc26
import Derived.Test.YthlmmfljeblflaaGreatDoorMc3
import Derived.Test.YthlmmfljeblflaaGreatDoorMc11
import Derived.Test.YthlmmfljeblflaaGreatDoorMc6
import Derived.ChangeKeysEq
import Derived.Deep.LoopGhost
import Derived.Test.YthlmmfljeblflaaGreatDoorMc24
import Derived.Test.YthlmmfljeblflaaGreatDoorMc13
/-! graph.sort. -/
namespace Go.Proofs.YthlmmfljeblflaaGreatDoor
set_option linter.unusedSimpArgs false
set_option linter.unusedVariables false
open Go.RowKit Ga
set_option maxRecDepth 100000

def firstScope : Code → Option Code
  | .scope c => some c
  | .seq a b => match firstScope a with
    | some c => some c
    | none => firstScope b
  | .block _ c => firstScope c
  | .loop c => firstScope c
  | _ => none
/-- the code from the label on -/
def afterSkip : Option Code → Code
  | some (.seq .skip r) => r
  | _ => .skip
noncomputable def tail76 : Code := afterSkip ((Tryz.f62.body.bind firstScope).bind fun c => findLabel c 0)
theorem wp_scope_jumps1' {P : Program} {a : Act} {w : World} {Q : Exit → Act → World → Prop} {c rest : Code} (l : Nat) (J : Act → World → Prop) (μ : Act → World → Nat) (hf : findLabel c l = some (.seq .skip rest))
    (pass : ∀ a w, J a w → rest.wp P (Exit.jump l (fun a' w' => J a' w' ∧ μ a' w' < μ a w) Q) a w)
    (first : (∀ a w, J a w → rest.wp P (Exit.jump l J Q) a w) → c.wp P (Exit.jump l J Q) a w) : (Code.scope c).wp P Q a w :=
  wp_scope_jumps l J μ hf (first fun a w h => Code.wp_mono (fun e a' w' hq => by
    cases e with
    | goto l' => exact ⟨hq.1, hq.2.1⟩
    | _ => exact hq) (pass a w h)) (fun a w h => wp_skip_seq (pass a w h))
def frame76 (vn : Value) (B C : Nat) (u : Nat → Value) : Act := { tmps := #[vn, u 1, .slice none 0 0, .pointer (some ⟨B, 0, none⟩), .pointer (some ⟨C, 0, none⟩), u 5, u 6, u 7, u 8, u 9, u 10, u 11, u 12, u 13, u 14, u 15, u 16, u 17, u 18, u 19, u 20, u 21, u 22, u 23, u 24, u 25, u 26, u 27, u 28, u 29, u 30, u 31, u 32, u 33, u 34], defers := [] }
theorem arr35 (t : Array Value) (h : t.size = 35) : t = #[t.getD 0 undef, t.getD 1 undef, t.getD 2 undef, t.getD 3 undef, t.getD 4 undef, t.getD 5 undef, t.getD 6 undef, t.getD 7 undef, t.getD 8 undef, t.getD 9 undef, t.getD 10 undef, t.getD 11 undef, t.getD 12 undef, t.getD 13 undef, t.getD 14 undef, t.getD 15 undef, t.getD 16 undef, t.getD 17 undef, t.getD 18 undef, t.getD 19 undef, t.getD 20 undef, t.getD 21 undef, t.getD 22 undef, t.getD 23 undef, t.getD 24 undef, t.getD 25 undef, t.getD 26 undef, t.getD 27 undef, t.getD 28 undef, t.getD 29 undef, t.getD 30 undef, t.getD 31 undef, t.getD 32 undef, t.getD 33 undef, t.getD 34 undef] := by
  have e : t = (Array.range 35).map fun i => t.getD i undef := by
    refine Array.ext (by simp [h]) fun i h1 h2 => ?_
    simp only [Array.getElem_map, Array.getElem_range]
    rw [Array.getD_eq_getD_getElem?, Array.getElem?_eq_getElem h1]
    rfl
  have e2 : Array.range 35 = #[0, 1, 2, 3, 4, 5, 6, 7, 8, 9, 10, 11, 12, 13, 14, 15, 16, 17, 18, 19, 20, 21, 22, 23, 24, 25, 26, 27, 28, 29, 30, 31, 32, 33, 34] := by decide +kernel
  rw [e2] at e
  exact e.trans (by simp)
structure Frame76 (vn : Value) (B C : Nat) (a : Act) : Prop where
  n : a.tmps.size = 35
  d : a.defers = []
  v : a.tmps[0]? = some vn
  r : a.tmps[2]? = some (.slice none 0 0)
  b : a.tmps[3]? = some (.pointer (some ⟨B, 0, none⟩))
  c : a.tmps[4]? = some (.pointer (some ⟨C, 0, none⟩))
theorem Frame76.get {vn : Value} {B C : Nat} {a : Act} (h : Frame76 vn B C a) : ∃ u, a = frame76 vn B C u := by
  obtain ⟨t, d⟩ := a
  obtain ⟨h1, h2, h3, h4, h5, h6⟩ := h
  simp only at h1 h2 h3 h4 h5 h6
  refine ⟨fun i => t.getD i undef, ?_⟩
  have e := arr35 t h1
  have g : ∀ i v, t[i]? = some v → t.getD i undef = v := fun i v h => by rw [Array.getD_eq_getD_getElem?, h]; rfl
  rw [g 0 _ h3, g 2 _ h4, g 3 _ h5, g 4 _ h6] at e
  unfold frame76
  rw [← e, h2]
/-- what holds at each jump -/
structure NormAt (w w1 : World) (B base : Nat) (vn : Value) (lc : List NdC) (l' : List Gr.Nd) : Prop where
  own : NodesOwn base w1 vn lc
  ins : NodesIn base w1 lc l'
  b : ∃ c, w1.heap[B]? = some (.cells c 29)
  small : Small l'
  l19 : l'.length ≤ 19
def Jump76 (w : World) (B C : Nat) (l : List Gr.Nd) (a' : Act) (w' : World) : Prop := ∃ (w1 : World) (base : Nat) (vn vo : Value) (lc : List NdC) (l' : List Gr.Nd) (out : List Int),
  NormAt w w1 B base vn lc l' ∧ l'.Perm l ∧ Frame76 vn B C a' ∧ SortAt w w1 B C w' vo out ∧ Gr.Ord l' out ∧ Gr.sortG l' (l'.length + 1 - out.length) out = Gr.sortG l' (l'.length + 1) []
def mu76 (B n : Nat) (_ : Act) (w' : World) : Nat := n + 1 - sliceLen ((w'.cell? ⟨B, 0, none⟩).getD undef)
def End76 (w : World) (l : List Gr.Nd) (a' : Act) (w' : World) : Prop := ∃ (v : Value) (l' : List Gr.Nd), a'.tmps[2]? = some v ∧ a'.defers = [] ∧ IntsAt w' v (Gr.sortG l' (l'.length + 1) []) ∧ l'.Perm l ∧ Grew w w'
theorem infoInt1 : (Tryz.prog.info? 3).map (fun i => (i.zero, i.size, i.bytes)) = some (some (.int .i64 0), 1, 8) := by kernel_rfl
theorem encN_one (x : Int) : ∀ u ∈ encN x, u.oneCell' = true := by intro u hu; simp [encN] at hu; subst hu; rfl
theorem int_at (W : World) (x : Int) (t : TypeId) (b : Nat) {c : Array Value} (hc : c = #[.int .i64 x]) (hb : b = W.heap.size) : ∀ j u, (([x] : List Int).flatMap encN)[j]? = some u → (W.alloc (.cells c t)).cell? ⟨b, j, none⟩ = some u := by
  subst hc
  intro j u hu
  rw [new_cells W _ t b hb j]
  simpa [encN] using hu
theorem sortG_stop {l : List Gr.Nd} {out : List Int} (h : Gr.nextS l out = none) : ∀ k, Gr.sortG l k out = out
  | 0 => rfl
  | k + 1 => by rw [Gr.sortG, h]
set_option maxHeartbeats 8000000 in
theorem sort_pass (w w1 W : World) (B C base : Nat) (vn vo : Value) (lc : List NdC) (l l' : List Gr.Nd) (out : List Int) (u : Nat → Value) (Q : Exit → Act → World → Prop)
    (hn : NormAt w w1 B base vn lc l') (hp : l'.Perm l) (hs : SortAt w w1 B C W vo out) (ho : Gr.Ord l' out) (hg : Gr.sortG l' (l'.length + 1 - out.length) out = Gr.sortG l' (l'.length + 1) [])
    (hret : ∀ a' w', End76 w l a' w' → Q .ret a' w') (hjump : ∀ a' w', Jump76 w B C l a' w' → mu76 B l.length a' w' < l.length + 1 - out.length → Q (.goto 0) a' w') :
    Code.wp Tryz.prog tail76 Q (frame76 vn B C u) W := by
  conv => arg 2; whnf
  unfold frame76
  have HN := Lib.hid hn
  have HS := Lib.hid hs
  have HO := Lib.hid ho
  have HG := Lib.hid hg
  have HP := Lib.hid hp
  have HR := Lib.hid hret
  have HJ := Lib.hid hjump
  have hol := ho.le
  have hpl := hp.length_eq
  have hll := hn.l19
  have HPL := Lib.hid hpl
  obtain ⟨a, cap, rfl⟩ : ∃ a cap, vn = .slice a l'.length cap := by
    obtain ⟨a, cap, e⟩ := (OwnAt.rows hn.own encNd_len).len
    rw [Rel.len hn.ins] at e
    exact ⟨a, cap, e⟩
  clear hn hs ho hg hp hret hjump hpl
  go_wp2
  go_loopg [12] l'.length (fun gg s12 wr => ∃ k : Nat, k ≤ l'.length ∧ l'.length - k ≤ gg ∧ s12 = .int .i64 k ∧ Hid (SortAt w w1 B C wr vo out) ∧ Hid (∀ j (hj : j < l'.length), j < k → standP out l'[j] = false))
  case atStart => exact ⟨0, Nat.zero_le _, by omega, rfl, HS, Lib.hid fun j _ h => by omega⟩
  case round =>
    obtain ⟨k, hk, hgg, rfl, HS2, HNO⟩ := hrel
    by_cases hlt : k < l'.length
    · obtain ⟨a', cap', e, -, hx⟩ := (HS2.out.nodes HN.out.own HN.out.ins HN.out.b).openC
      cases e
      obtain ⟨b, off, c, rfl, hb, hn, c0, c1, c2, c3, c4, c5, c6, c7, c8, c9, c10, c11, c12⟩ := hx k hlt
      clear hx
      have hst := standP_eq out l'[k]
      generalize hy : l'[k] = y at *
      have HY := Lib.hid hy
      have hid := hn.id
      have HNc := Lib.hid hn
      have hcB := cell_of (o := 0) HS2.out.b
      have hcC := cell_of (o := 0) HS2.out.c
      have hfB := frozen_of (o := 0) HS2.out.b
      simp at hcB hcC
      have hpB := Pre.mk (heap_lt HS2.out.b)
      have hpC := Pre.mk (heap_lt HS2.out.c)
      have hrows : IntsAt wr vo out := HS2.out.own.rows encN_len
      have HP2 := Lib.hid fun W (g : Grew wr W) => containsFn_any c.vf y.frm 102 #[.pointer (some ⟨C, 0, none⟩)] (fun x => !decide (x ∈ out)) W (HNc.out.f.grew g) enters102 (fun W' x g' => sort2_pred out vo B C wr hrows hpB hcB hpC hcC W' x (g.trans g'))
      have eg := enters101
      obtain ⟨ao, co, rfl⟩ := hrows.len
      obtain ⟨cid, kind, af, cf, ap, cp, par, r0, r1, r2, r3, r4, r5, r6, r7, rfl⟩ := HNc.out.lit
      simp only at c0 c1 c2 c3 c4 c5 c6 c7 c8 c9 c10 c11 c12 hid HP2
      rw [hid] at hst
      have hp1 : ∀ W, Grew wr W → Calls Tryz.prog 101 #[.int .i64 cid, .pointer (some ⟨B, 0, none⟩)] W (Gives (.bool (decide (cid ∈ out))) W) := fun W g => sort1_pred out _ B wr hrows hpB hcB W cid g
      clear hn hrows hy
      generalize hq1 : decide (cid ∈ out) = q1 at *
      have HP1 := Lib.hid hp1
      have HQ1 := Lib.hid hq1
      clear hq1 hp1
      generalize hq2 : (y.frm.any fun f => !decide (f ∈ out)) = q2 at *
      have HQ2 := Lib.hid hq2
      clear hq2
      have HID := Lib.hid hid
      have HST := Lib.hid hst
      clear hid hst
      cases q1 with
      | true =>
        go_wp2_with (go_at_fn 101; go_loud (refine (HP1.out _ (by repeat (first | with_reducible exact Grew.refl _ | apply Grew.more | apply Grew.alloc | apply Grew.drew | apply Grew.drewN))).mono ?_; rintro e w2 ⟨rfl, R3, n3, rfl⟩))
        go_roundg (l'.length - (k + 1))
        case measure => omega
        case rel => exact ⟨k + 1, by omega, by omega, by go_num, Lib.hid (HS2.out.grew (by repeat (first | with_reducible exact Grew.refl _ | apply Grew.more | apply Grew.alloc | apply Grew.drew | apply Grew.drewN))), Lib.hid fun j hj h => by
          rcases Nat.lt_or_ge j k with h1 | h1
          · exact HNO.out j hj h1
          · obtain rfl : j = k := by omega
            rw [HY.out, HST.out]
            rfl⟩
      | false =>
        cases q2 with
        | true =>
          go_wp2_with (first
            | (go_at_fn 101; refine (HP1.out _ (by repeat (first | with_reducible exact Grew.refl _ | apply Grew.more | apply Grew.alloc | apply Grew.drew | apply Grew.drewN))).mono ?_; rintro e w2 ⟨rfl, R3, n3, rfl⟩)
            | (go_at_call 99; refine (HP2.out _ (by repeat (first | with_reducible exact Grew.refl _ | apply Grew.more | apply Grew.alloc | apply Grew.drew | apply Grew.drewN))).mono ?_; rintro e w2 ⟨rfl, R4, n4, rfl⟩))
          go_roundg (l'.length - (k + 1))
          case measure => omega
          case rel => exact ⟨k + 1, by omega, by omega, by go_num, Lib.hid (HS2.out.grew (by repeat (first | with_reducible exact Grew.refl _ | apply Grew.more | apply Grew.alloc | apply Grew.drew | apply Grew.drewN))), Lib.hid fun j hj h => by
            rcases Nat.lt_or_ge j k with h1 | h1
            · exact HNO.out j hj h1
            · obtain rfl : j = k := by omega
              rw [HY.out, HST.out]
              rfl⟩
        | false =>
          have hnx : Gr.nextS l' out = some cid := by
            have hf : l'.find? (standP out) = some y := List.find?_eq_some_iff_getElem.2 ⟨by rw [HST.out]; rfl, k, hlt, HY.out, fun j hj => by rw [HNO.out j (by omega) hj]; rfl⟩
            rw [standP_next, hf, Option.map_some, HID.out]
          have HNX := Lib.hid hnx
          have hlen : out.length + 1 ≤ 1000000 := by omega
          clear hnx
          go_wp2_with (first
            | (go_at_fn 101; refine (HP1.out _ (by repeat (first | with_reducible exact Grew.refl _ | apply Grew.more | apply Grew.alloc | apply Grew.drew | apply Grew.drewN))).mono ?_; rintro e w2 ⟨rfl, R3, n3, rfl⟩)
            | (go_at_call 99; refine (HP2.out _ (by repeat (first | with_reducible exact Grew.refl _ | apply Grew.more | apply Grew.alloc | apply Grew.drew | apply Grew.drewN))).mono ?_; rintro e w2 ⟨rfl, R4, n4, rfl⟩)
            | (at_builtin; go_loud (refine wpList_ownK (w0 := w) rfl (.tmp 28) (.tmp 31) 29 _ _ _ _ [cid] rfl Tryz.underlying29 infoInt1 rfl (by decide) encN_len encN_one rfl (OwnAt.grew HS2.out.own (by repeat (first | with_reducible exact Grew.refl _ | apply Grew.more | apply Grew.alloc | apply Grew.drew | apply Grew.drewN))) (HS2.out.g.trans (by repeat (first | with_reducible exact Grew.refl _ | apply Grew.more | apply Grew.alloc | apply Grew.drew | apply Grew.drewN))) rfl (int_at _ _ _ _ rfl (by simp [go_sem])) (by simpa using hlen) (by decide) (by simp) ?_; intro v5 W5 hA; (have hs5 := (HS2.out.grew (by repeat (first | with_reducible exact Grew.refl _ | apply Grew.more | apply Grew.alloc | apply Grew.drew | apply Grew.drewN))).push hA); obtain ⟨hB5, hS5⟩ := hs5; obtain ⟨b5, c5, rfl⟩ := own_some' hA.2.1 (by simp); (have cB5 := cell_of (o := 0) hB5); (have fB5 := frozen_of (o := 0) hB5); (have pB5 := Pre.mk (heap_lt hB5)); simp at cB5; simp only [List.length_append, List.length_cons, List.length_nil, Nat.zero_add] at hS5; (have HS5 := Lib.hid hS5); clear hS5 hB5 hA)))
          go_step3
          have hmu : mu76 B l.length { tmps := #[], defers := [] } (W5.setCell ⟨B, 0, none⟩ (.slice (some ⟨b5, 0, none⟩) (out.length + 1) c5)) < l.length + 1 - out.length := by
            unfold mu76
            rw [cell_of (o := 0) HS5.out.b]
            simp [sliceLen]
            have := HPL.out
            omega
          have hgg2 : Gr.sortG l' (l'.length + 1 - (out ++ [cid]).length) (out ++ [cid]) = Gr.sortG l' (l'.length + 1) [] := by
            rw [← HG.out, List.length_append, show l'.length + 1 - out.length = (l'.length - out.length) + 1 by omega, Gr.sortG, HNX.out]
            simp
          exact HJ.out _ _ ⟨w1, base, _, _, lc, l', out ++ [cid], HN.out, HP.out, ⟨rfl, rfl, rfl, rfl, rfl, rfl⟩, HS5.out, HO.out.step HNX.out, hgg2⟩ hmu
    · obtain rfl : k = l'.length := by omega
      have hcB := cell_of (o := 0) HS2.out.b
      simp at hcB
      have hpB := Pre.mk (heap_lt HS2.out.b)
      have hrows := HS2.out.own.rows encN_len
      obtain ⟨ao, co, rfl⟩ := hrows.len
      have HRW := Lib.hid hrows
      clear hrows
      have hnx : Gr.nextS l' out = none := by
        rw [standP_next, List.find?_eq_none.2 fun x hx => by
          obtain ⟨j, hj, rfl⟩ := List.mem_iff_getElem.1 hx
          rw [HNO.out j hj hj]
          simp]
        rfl
      have hend : out = Gr.sortG l' (l'.length + 1) [] := by rw [← HG.out, sortG_stop hnx]
      have HE := Lib.hid hend
      clear hnx hend
      go_wp2
      refine HR.out _ _ ⟨_, l', rfl, rfl, ?_, HP.out, HS2.out.g⟩
      rw [← HE.out]
      exact HRW.out

/-- the order of the nodes by their numbers -/
def SortGives (l : List Gr.Nd) (w : World) (e : Ending) (w' : World) : Prop := ∃ (v : Value) (l' : List Gr.Nd), e = .returned v ∧ IntsAt w' v (Gr.sortG l' (l'.length + 1) []) ∧ l'.Perm l ∧ Grew w w'
set_option maxHeartbeats 8000000 in
theorem sort_any (v : Value) (l : List Gr.Nd) (w : World) (hv : NodesAt w v l) (hs : Small l) (hl : l.length ≤ 19) : Calls Tryz.prog 62 #[v] w (SortGives l w) := by
  have HM := Lib.hid fun W (g : Grew w W) => norm_any v l W (hv.grew g) hs hl
  have HS := Lib.hid hs
  obtain ⟨a, cap, rfl, hm, -⟩ := hv.openC
  clear hv hs
  go_enter Tryz.func62, Tryz.ntmps62
  go_wp2
  refine wp_scope_jumps1' 0 (Jump76 w w.heap.size (w.heap.size + 1) l) (mu76 w.heap.size l.length) rfl ?_ ?_
  · rintro a1 W ⟨w1, base, vn, vo, lc, l', out, hn, hp, hf, hs, ho, hg⟩
    obtain ⟨u, rfl⟩ := hf.get
    have hle := ho.le
    refine sort_pass w w1 W _ _ base vn vo lc l l' out u _ hn hp hs ho hg (fun a' w' he => ?_) (fun a' w' hj hmu => ⟨rfl, hj, ?_⟩)
    · obtain ⟨v, l2, h1, h2, h3, h4, h5⟩ := he
      refine bodyPost_ret (v := v) ?_ h2 ⟨v, l2, rfl, h3, h4, h5⟩
      simp [results, Tryz.results62, go_sem]
      rw [h1]
      rfl
    · have e : mu76 w.heap.size l.length (frame76 vn w.heap.size (w.heap.size + 1) u) W = l.length + 1 - out.length := by
        unfold mu76
        rw [cell_of (o := 0) hs.b]
        obtain ⟨ao, co, e⟩ := (hs.own.rows encN_len).len
        rw [e]
        rfl
      rw [e]
      exact hmu
  · intro hfirst
    go_wp2_with (go_at_call 33; go_loud (refine (HM.out _ (by repeat (first | with_reducible exact Grew.refl _ | apply Grew.more | apply Grew.alloc | apply Grew.drew | apply Grew.drewN))).mono ?_; rintro e w1 ⟨vn, lc, l', rfl, ho, hi, hp, -, R3, n3, rfl⟩; obtain ⟨an, cn, rfl⟩ := (OwnAt.rows ho encNd_len).len; (have HO := Lib.hid ho); (have HI := Lib.hid hi); (have HP := Lib.hid hp); clear ho hi hp))
    go_step3
    have hB : (((w.alloc (.cells #[.slice none 0 0] 29)).alloc (.cells #[.func (.func 101) #[] #[.pointer (some ⟨w.heap.size, 0, none⟩)]] 156)).more R3 n3).heap[w.heap.size]? = some (.cells #[.slice none 0 0] 29) := grew_heap (by repeat (first | with_reducible exact Grew.refl _ | apply Grew.more | apply Grew.alloc | apply Grew.drew | apply Grew.drewN)) (heap_new_at w _ _ rfl)
    have hC : (((w.alloc (.cells #[.slice none 0 0] 29)).alloc (.cells #[.func (.func 101) #[] #[.pointer (some ⟨w.heap.size, 0, none⟩)]] 156)).more R3 n3).heap[w.heap.size + 1]? = some (.cells #[.func (.func 101) #[] #[.pointer (some ⟨w.heap.size, 0, none⟩)]] 156) := grew_heap (Grew.more (Grew.refl _) R3 n3) (heap_new_at (w.alloc (.cells #[.slice none 0 0] 29)) _ _ (by rw [World.size_alloc]))
    rename_i hK
    refine hK _ _ (hfirst _ _ ⟨_, _, .slice an lc.length cn, .slice none 0 0, lc, l', [], ⟨HO.out, HI.out, ⟨_, hB⟩, fun n hn => HS.out n (HP.out.mem_iff.1 hn), by rw [HP.out.length_eq]; exact hl⟩, HP.out, ?_,
      ⟨Keep.ofGrew (Grew.refl _), by repeat (first | with_reducible exact Grew.refl _ | apply Grew.more | apply Grew.alloc | apply Grew.drew | apply Grew.drewN), OwnAt.nil _, (fun q h => by cases h), hB, hC, Nat.le_refl _⟩, Gr.Ord.nil _, by simp⟩)
    exact ⟨rfl, rfl, rfl, rfl, rfl, rfl⟩
end Go.Proofs.YthlmmfljeblflaaGreatDoor

/-! graph.Check tells what the document calls right. -/
namespace Go.Proofs.YthlmmfljeblflaaGreatDoor
set_option linter.unusedSimpArgs false
set_option linter.unusedVariables false
open Go.RowKit Ga
set_option maxRecDepth 100000

theorem nodeB_iff (l : List Gr.Nd) (n : Gr.Nd) : nodeB l n = true ↔ Gr.OkP l n := by
  unfold nodeB
  simp only [Bool.and_eq_true, decide_eq_true_eq, Bool.not_eq_true']
  have hk : kindB n = true ↔ (n.kind = 0 ∧ n.id = 0 ∧ n.frm.length = 0 ∧ n.prog.length = 0) ∨ (n.kind = 1 ∧ n.id ≠ 0 ∧ n.frm.length = 1 ∧ Vm.safe n.prog = true) ∨ (n.kind = 2 ∧ n.id ≠ 0 ∧ 1 ≤ n.frm.length ∧ n.frm.length ≤ 3 ∧ n.frm.Nodup ∧ n.prog.length = 0) := by
    unfold kindB
    by_cases k0 : n.kind = 0
    · rw [if_pos k0]
      simp only [Bool.and_eq_true, decide_eq_true_eq, beq_iff_eq]
      constructor
      · rintro ⟨h1, h2, h3⟩; exact .inl ⟨k0, h1, h2, h3⟩
      · rintro (⟨_, h1, h2, h3⟩ | ⟨h, _⟩ | ⟨h, _⟩)
        · exact ⟨h1, h2, h3⟩
        · omega
        · omega
    · rw [if_neg k0]
      by_cases k1 : n.kind = 1
      · rw [if_pos k1]
        simp only [Bool.and_eq_true, decide_eq_true_eq, bne_iff_ne]
        constructor
        · rintro ⟨h1, h2, h3⟩; exact .inr (.inl ⟨k1, h1, h2, h3⟩)
        · rintro (⟨h, _⟩ | ⟨_, h1, h2, h3⟩ | ⟨h, _⟩)
          · omega
          · exact ⟨h1, h2, h3⟩
          · omega
      · rw [if_neg k1]
        by_cases k2 : n.kind = 2
        · rw [if_pos k2]
          simp only [Bool.and_eq_true, decide_eq_true_eq, bne_iff_ne]
          constructor
          · rintro ⟨h1, h2, h3, h4, h5⟩; exact .inr (.inr ⟨k2, h1, h2, h3, h4, h5⟩)
          · rintro (⟨h, _⟩ | ⟨h, _⟩ | ⟨_, h1, h2, h3, h4, h5⟩)
            · omega
            · omega
            · exact ⟨h1, h2, h3, h4, h5⟩
        · rw [if_neg k2]
          constructor
          · intro h; cases h
          · rintro (⟨h, _⟩ | ⟨h, _⟩ | ⟨h, _⟩) <;> omega
  have hr : routeB n = true ↔ 1 ≤ n.par ∧ n.par ≤ 3 ∧ ∀ g ∈ n.route, 0 ≤ g ∧ g < n.par := by
    unfold routeB
    simp only [Bool.and_eq_true, decide_eq_true_eq, Bool.not_eq_true', List.any_eq_false]
    refine and_congr_right fun _ => and_congr_right fun _ => forall_congr' fun g => forall_congr' fun _ => ?_
    unfold badT
    simp only [Bool.or_eq_true, decide_eq_true_eq]
    omega
  have ha : n.frm.any (aboveB l) = false ↔ ∀ f ∈ n.frm, ∃ j m, Gr.find l f = some j ∧ l[j]? = some m ∧ m.kind ≠ 2 := by
    rw [List.any_eq_false]
    refine forall_congr' fun f => forall_congr' fun _ => ?_
    unfold aboveB Gr.nodeOf
    cases hf : Gr.find l f with
    | none => simp
    | some j =>
      obtain ⟨m, hm, -⟩ := Gr.find_some hf
      rw [Option.bind_some, hm]
      simp only [beq_iff_eq]
      constructor
      · intro h; exact ⟨j, m, rfl, hm, h⟩
      · rintro ⟨j', m', h1, h2, h3⟩
        cases h1
        rw [hm] at h2
        cases h2
        exact h3
  rw [hk, hr, ha]
  constructor
  · rintro ⟨h1, h2, h3, ⟨h4, h5, h6⟩, h7⟩
    exact ⟨h1, h2, h3, h4, h5, h6, h7⟩
  · rintro ⟨h1, h2, h3, h4, h5, h6, h7⟩
    exact ⟨h1, h2, h3, ⟨h4, h5, h6⟩, h7⟩
open Classical in
/-- the error that graph.Check tells -/
noncomputable def checkR (l : List Gr.Nd) : Int := if 8 < l.length then 6 else if Gr.RightR l then 0 else 10
theorem checkR_long {l : List Gr.Nd} (h : 8 < l.length) : checkR l = 6 := by unfold checkR; rw [if_pos h]
theorem checkR_bad {l : List Gr.Nd} (h8 : l.length ≤ 8) (h : ¬ Gr.RightR l) : checkR l = 10 := by unfold checkR; rw [if_neg (by omega), if_neg h]
theorem checkR_ok {l : List Gr.Nd} (h8 : l.length ≤ 8) (h : Gr.RightR l) : checkR l = 0 := by unfold checkR; rw [if_neg (by omega), if_pos h]
theorem right_self (l : List Gr.Nd) : Gr.RightR l ↔ Gr.RightP l l := Gr.right_iff (List.Perm.refl l)
def idsT (l : List Gr.Nd) (k : Nat) : List Int := (l.take k).map (·.id)
theorem idsT_succ {l : List Gr.Nd} {k : Nat} (h : k < l.length) : idsT l (k + 1) = idsT l k ++ [l[k].id] := by
  unfold idsT
  rw [List.take_succ_eq_append_getElem h, List.map_append]
  rfl
set_option maxHeartbeats 8000000 in
theorem check_graph (v : Value) (l : List Gr.Nd) (w : World) (hv : NodesAt w v l) (hs : Small l) : Calls Tryz.prog 31 #[v] w (Gives (.int .i64 (checkR l)) w) := by
  have HV := Lib.hid hv
  have HS := Lib.hid hs
  obtain ⟨a, cap, rfl, hm, -⟩ := hv.openC
  clear hv hs
  by_cases h8 : 8 < l.length
  · rw [checkR_long h8]
    have h8' : (8 : Int) < (l.length : Int) := by omega
    go_enter Tryz.func31, Tryz.ntmps31
    go_wp2
    go_ret
    refine ⟨rfl, ?_⟩
    repeat (first | with_reducible exact Grew.refl _ | apply Grew.more | apply Grew.alloc | apply Grew.drew | apply Grew.drewN)
  · have h8' : ¬ (8 : Int) < (l.length : Int) := by omega
    go_enter Tryz.func31, Tryz.ntmps31
    go_wp2
    go_loopg [3, 11] l.length (fun gg s3 s11 wr => ∃ (k : Nat) (vk : Value), k ≤ l.length ∧ l.length - k ≤ gg ∧ s11 = .int .i64 k ∧ vk = s3 ∧ Hid (Grew w wr) ∧ Hid (OwnAt w.heap.size 3 1 encN wr vk (idsT l k)) ∧ Hid (∀ j (hj : j < l.length), j < k → nodeB l l[j] = true))
    case atStart => exact ⟨0, _, Nat.zero_le _, by omega, rfl, rfl, Lib.hid (by repeat (first | with_reducible exact Grew.refl _ | apply Grew.more | apply Grew.alloc | apply Grew.drew | apply Grew.drewN)), Lib.hid (OwnAt.nil _), Lib.hid fun j _ h => by omega⟩
    case round =>
      obtain ⟨k, vk, hk, hgg, rfl, rfl, HG, HO, HNO⟩ := hrel
      obtain ⟨ak, ck, rfl⟩ := (HO.out.rows encN_len).len
      have hil : (idsT l k).length = k := by unfold idsT; rw [List.length_map, List.length_take, Nat.min_eq_left hk]
      rw [hil] at HO
      rw [hil]
      by_cases hlt : k < l.length
      · obtain ⟨a', cap', e, -, hx⟩ := (HV.out.grew HG.out).openC
        cases e
        obtain ⟨b, off, c, rfl, hb, hn, c0, c1, c2, c3, c4, c5, c6, c7, c8, c9, c10, c11, c12⟩ := hx k hlt
        have hst := (HS.out _ (List.getElem_mem hlt)).1
        have hsu := idsT_succ hlt
        have HSU := Lib.hid hsu
        have HIL := Lib.hid hil
        have hw1 := nodeB_iff l l[k]
        clear hx hsu hil
        generalize hy : l[k] = y at *
        have HY := Lib.hid hy
        have HB := Lib.hid fun W (g : Grew wr W) => node_any c y _ l W (hn.grew g) ((HV.out.grew HG.out).grew g) HS.out hst
        have hid := hn.id
        have HNc := Lib.hid hn
        obtain ⟨cid, kind, af, cf, ap, cp, par, r0, r1, r2, r3, r4, r5, r6, r7, rfl⟩ := hn.lit
        simp only at c0 c1 c2 c3 c4 c5 c6 c7 c8 c9 c10 c11 c12 hid HB
        have HID := Lib.hid hid
        have HW1 := Lib.hid hw1
        clear hn hid hw1 hy
        cases hq : nodeB l y with
        | false =>
          have hbad : ¬ Gr.RightR l := fun h => by
            have h2 := ((right_self l).1 h).ok y (by rw [← HY.out]; exact List.getElem_mem hlt)
            rw [← HW1.out, hq] at h2
            cases h2
          have he := checkR_bad (by omega) hbad
          have HE := Lib.hid he
          rw [hq] at HB
          clear he hbad hq
          go_wp2_with (go_at_call 59; refine (HB.out _ (by repeat (first | with_reducible exact Grew.refl _ | apply Grew.more | apply Grew.alloc | apply Grew.drew | apply Grew.drewN))).mono ?_; rintro e w1 ⟨rfl, R3, n3, rfl⟩)
          go_ret
          refine ⟨by rw [HE.out]; rfl, HG.out.trans ?_⟩
          repeat (first | with_reducible exact Grew.refl _ | apply Grew.more | apply Grew.alloc | apply Grew.drew | apply Grew.drewN)
        | true =>
          have HQ := Lib.hid hq
          rw [hq] at HB
          clear hq
          go_wp2_with (first
            | (go_at_call 59; refine (HB.out _ (by repeat (first | with_reducible exact Grew.refl _ | apply Grew.more | apply Grew.alloc | apply Grew.drew | apply Grew.drewN))).mono ?_; rintro e w1 ⟨rfl, R3, n3, rfl⟩)
            | (at_builtin; go_loud (refine wpList_ownK (w0 := w) rfl (.tmp 19) (.tmp 22) 29 _ _ _ _ [cid] rfl Tryz.underlying29 infoInt1 rfl (by decide) encN_len encN_one rfl (OwnAt.grew HO.out (by repeat (first | with_reducible exact Grew.refl _ | apply Grew.more | apply Grew.alloc | apply Grew.drew | apply Grew.drewN))) (HG.out.trans (by repeat (first | with_reducible exact Grew.refl _ | apply Grew.more | apply Grew.alloc | apply Grew.drew | apply Grew.drewN))) rfl (int_at _ _ _ _ rfl (by simp [go_sem])) (by rw [HIL.out]; simp; omega) (by decide) (by simp) ?_; intro v5 W5 hA; (have HA := Lib.hid hA); clear hA)))
          have hr1 : OwnAt w.heap.size 3 1 encN W5 v5 (idsT l (k + 1)) := by
            rw [HSU.out, HID.out]
            exact HA.out.2.1
          have HR1 := Lib.hid hr1
          clear hr1
          go_roundg (l.length - (k + 1))
          case measure => omega
          case rel => exact ⟨k + 1, _, by omega, by omega, by go_num, rfl, Lib.hid HA.out.1, HR1, Lib.hid fun j hj h => by
            rcases Nat.lt_or_ge j k with h1 | h1
            · exact HNO.out j hj h1
            · obtain rfl : j = k := by omega
              rw [HY.out]
              exact HQ.out⟩
      · obtain rfl : k = l.length := by omega
        have hids : idsT l l.length = Gr.ids l := by unfold idsT Gr.ids; rw [List.take_length]
        rw [hids] at HO
        have hall : ∀ n ∈ l, Gr.OkP l n := fun n hn => by
          obtain ⟨j, hj, rfl⟩ := List.mem_iff_getElem.1 hn
          exact (nodeB_iff l _).1 (HNO.out j hj hj)
        have HALL := Lib.hid hall
        have HU := Lib.hid fun W (g : Grew wr W) => unlike_any _ (Gr.ids l) W ((HO.out.rows encN_len).grew g) (by unfold Gr.ids; rw [List.length_map]; omega)
        have HC := Lib.hid fun W (g : Grew wr W) => containsI_any _ (Gr.ids l) 0 W ((HO.out.rows encN_len).grew g)
        have HT := Lib.hid fun W (g : Grew wr W) => sort_any _ l W ((HV.out.grew HG.out).grew g) HS.out (by omega)
        clear hil hids hall
        by_cases hu : (Gr.ids l).Nodup
        · by_cases hz : (0 : Int) ∈ Gr.ids l
          · rw [decide_eq_true hu] at HU
            rw [decide_eq_true hz] at HC
            have HUZ := Lib.hid (And.intro hu hz)
            clear hu hz
            go_wp2_with (first
              | (go_at_call 60; refine (HU.out _ (by repeat (first | with_reducible exact Grew.refl _ | apply Grew.more | apply Grew.alloc | apply Grew.drew | apply Grew.drewN))).mono ?_; rintro e w1 ⟨rfl, R3, n3, rfl⟩)
              | (go_at_call 61; refine (HC.out _ (by repeat (first | with_reducible exact Grew.refl _ | apply Grew.more | apply Grew.alloc | apply Grew.drew | apply Grew.drewN))).mono ?_; rintro e w1 ⟨rfl, hw1⟩; obtain rfl := hw1)
              | (go_at_call 62; refine (HT.out _ (by repeat (first | with_reducible exact Grew.refl _ | apply Grew.more | apply Grew.alloc | apply Grew.drew | apply Grew.drewN))).mono ?_; rintro e w1 ⟨vs, l', rfl, hr, hp, R4, n4, rfl⟩; obtain ⟨as1, cs1, rfl⟩ := hr.len; (have HP := Lib.hid hp); clear hr hp))
            · rename_i hx
              have he : (Gr.sortG l' (l'.length + 1) []).length ≠ l.length := by simp at hx; omega
              have hok := checkR_bad (by omega) fun h => he ((Gr.right_iff HP.out.symm).1 h).so
              have HOK := Lib.hid hok
              clear hok hx he
              go_ret
              exact ⟨by rw [HOK.out]; rfl, HG.out.trans (by repeat (first | with_reducible exact Grew.refl _ | apply Grew.more | apply Grew.alloc | apply Grew.drew | apply Grew.drewN))⟩
            · rename_i hx
              have he : (Gr.sortG l' (l'.length + 1) []).length = l.length := by simp at hx; omega
              have hok := checkR_ok (by omega) ((Gr.right_iff HP.out.symm).2 ⟨by omega, HALL.out, HUZ.out.1, HUZ.out.2, he⟩)
              have HOK := Lib.hid hok
              clear hok hx he
              go_ret
              exact ⟨by rw [HOK.out]; rfl, HG.out.trans (by repeat (first | with_reducible exact Grew.refl _ | apply Grew.more | apply Grew.alloc | apply Grew.drew | apply Grew.drewN))⟩
          · have hok := checkR_bad (by omega) fun h => hz ((right_self l).1 h).z
            have HOK := Lib.hid hok
            rw [decide_eq_true hu] at HU
            rw [decide_eq_false hz] at HC
            clear hok hu hz
            go_wp2_with (first
              | (go_at_call 60; refine (HU.out _ (by repeat (first | with_reducible exact Grew.refl _ | apply Grew.more | apply Grew.alloc | apply Grew.drew | apply Grew.drewN))).mono ?_; rintro e w1 ⟨rfl, R3, n3, rfl⟩)
              | (go_at_call 61; refine (HC.out _ (by repeat (first | with_reducible exact Grew.refl _ | apply Grew.more | apply Grew.alloc | apply Grew.drew | apply Grew.drewN))).mono ?_; rintro e w1 ⟨rfl, hw1⟩; obtain rfl := hw1))
            go_ret
            exact ⟨by rw [HOK.out]; rfl, HG.out.trans (by repeat (first | with_reducible exact Grew.refl _ | apply Grew.more | apply Grew.alloc | apply Grew.drew | apply Grew.drewN))⟩
        · have hok := checkR_bad (by omega) fun h => hu ((right_self l).1 h).un
          have HOK := Lib.hid hok
          rw [decide_eq_false hu] at HU
          clear hok hu
          go_wp2_with (go_at_call 60; refine (HU.out _ (by repeat (first | with_reducible exact Grew.refl _ | apply Grew.more | apply Grew.alloc | apply Grew.drew | apply Grew.drewN))).mono ?_; rintro e w1 ⟨rfl, R3, n3, rfl⟩)
          go_ret
          exact ⟨by rw [HOK.out]; rfl, HG.out.trans (by repeat (first | with_reducible exact Grew.refl _ | apply Grew.more | apply Grew.alloc | apply Grew.drew | apply Grew.drewN))⟩
end Go.Proofs.YthlmmfljeblflaaGreatDoor

/-! pack.putNode, putGraph, Graph. -/
namespace Go.Proofs.YthlmmfljeblflaaGreatDoor
set_option linter.unusedSimpArgs false
set_option linter.unusedVariables false
open Go.RowKit Ga
set_option maxRecDepth 100000

def fitsP (p : List Vm.Ins) : Prop := Co.fitsI p = true
theorem KeptW.cells {base B q : Nat} {W W' : World} {c : Array Value} {t : TypeId} (k : KeptW base B W W') (h : W.heap[q]? = some (.cells c t)) (hn : q ≠ B) (ht : t ≠ 5) : W'.heap[q]? = some (.cells c t) := by
  rw [k.2 q (heap_lt h) hn (.inr ⟨_, _, _, h, ht⟩)]; exact h
/-- a slice that the writer does not touch -/
def Apart (base B : Nat) (W : World) (v : Value) : Prop := ∀ b off, (∃ n c, v = .slice (some ⟨b, off, none⟩) n c) → Safe base b W ∧ b ≠ B
theorem Apart.kept {α : Type} {k : Nat} {enc : α → List Value} {base B : Nat} {W W' : World} {v : Value} {l : List α} (h : Apart base B W v) (hk : KeptW base B W W') (hr : RowsAt k enc W v l) (hlt : ∀ b off, (∃ n c, v = .slice (some ⟨b, off, none⟩) n c) → l ≠ [] → b < W.heap.size) : RowsAt k enc W' v l := by
  cases l with
  | nil =>
    obtain ⟨a, cap, rfl, hm, -⟩ := hr
    exact ⟨a, cap, rfl, hm, fun h => absurd rfl h⟩
  | cons x l => exact RowsAt.sameBlock hr fun b off hv => hk.2 b (hlt b off hv (by simp)) (h b off hv).2 (h b off hv).1
theorem Apart.to {base B : Nat} {W W' : World} {v : Value} (h : Apart base B W v) (hk : KeptW base B W W') : Apart base B W' v := fun b off hv => by
  obtain ⟨h1, h2⟩ := h b off hv
  refine ⟨?_, h2⟩
  rcases h1 with h1 | ⟨c, t, f, hc, ht⟩
  · exact .inl h1
  · exact .inr ⟨c, t, f, by rw [hk.2 b (heap_lt hc) h2 (.inr ⟨c, t, f, hc, ht⟩)]; exact hc, ht⟩
theorem putI_len (p : List Val) (h : Co.fitsI p = true) : (putI p).length ≤ 200 := by
  obtain ⟨h24, _⟩ := Co.fits_parts h
  unfold putI
  rw [List.length_append, Oc.be_len, Oc.bes_len, nums_len]
  omega
end Go.Proofs.YthlmmfljeblflaaGreatDoor

/-! pack.putGraph, Graph. -/
namespace Go.Proofs.YthlmmfljeblflaaGreatDoor
set_option linter.unusedSimpArgs false
set_option linter.unusedVariables false
open Go.RowKit Ga
set_option maxRecDepth 100000

theorem OwnsNd.kept {base base0 B : Nat} {W W' : World} {c : NdC} {n : Gr.Nd} (o : OwnsNd base W c n) (hk : KeptW base0 B W W') (hB : B < base) : OwnsNd base W' c n := by
  refine ⟨OwnAt.same o.1 fun b h => ?_, OwnAt.same o.2 fun b h => ?_⟩
  · obtain ⟨h1, cs, h2⟩ := OwnAt.block o.1 h
    exact hk.2 b (heap_lt h2) (by omega) (.inr ⟨_, _, _, h2, by decide⟩)
  · obtain ⟨h1, cs, h2⟩ := OwnAt.block o.2 h
    exact hk.2 b (heap_lt h2) (by omega) (.inr ⟨_, _, _, h2, by decide⟩)
theorem NodesOwn.kept {base base0 B : Nat} {W W' : World} {v : Value} {lc : List NdC} (o : NodesOwn base W v lc) (hk : KeptW base0 B W W') (hB : B < base) : NodesOwn base W' v lc :=
  OwnAt.same o fun b h => by
    obtain ⟨h1, cs, h2⟩ := OwnAt.block o h
    exact hk.2 b (heap_lt h2) (by omega) (.inr ⟨_, _, _, h2, by decide⟩)
theorem NodesIn.kept {base base0 B : Nat} {W W' : World} {lc : List NdC} {l : List Gr.Nd} (h : NodesIn base W lc l) (hk : KeptW base0 B W W') (hB : B < base) : NodesIn base W' lc l :=
  Rel.mono (fun c n ⟨h1, h2⟩ => ⟨(h2.kept hk hB).is h1, h2.kept hk hB⟩) h
theorem putNd_len {n : Gr.Nd} {lp : Int} (h : Gr.OkB fitsP lp n) : (Gr.putNd putI n).length ≤ 300 := by
  have h1 := putI_len n.prog h.p
  have h2 := h.m
  have h3 := h.ol
  unfold Gr.putNd
  simp only [List.length_append, Oc.be_len, Oc.bes_len]
  omega
theorem flat_len {lp : Int} : ∀ {l : List Gr.Nd}, (∀ n ∈ l, Gr.OkB fitsP lp n) → (l.flatMap (Gr.putNd putI)).length ≤ l.length * 300
  | [], _ => by simp
  | n :: l, h => by
    have h1 := putNd_len (h n (List.mem_cons_self ..))
    have h2 := flat_len (l := l) fun m hm => h m (List.mem_cons_of_mem _ hm)
    rw [List.flatMap_cons, List.length_append, List.length_cons]
    omega
end Go.Proofs.YthlmmfljeblflaaGreatDoor

/-! code.Get, with what else it leaves; pack's reader. -/
namespace Go.Proofs.YthlmmfljeblflaaGreatDoor
set_option linter.unusedSimpArgs false
set_option linter.unusedVariables false
open Go.RowKit Ga
set_option maxRecDepth 100000

theorem OwnAt.up {α : Type} {base base' : Nat} {e : TypeId} {k : Nat} {enc : α → List Value} {w : World} {v : Value} {l : List α} (h : OwnAt base e k enc w v l) (hb : ∀ q, v.ownBlock = some q → base' ≤ q) : OwnAt base' e k enc w v l := by
  obtain ⟨h1, h2⟩ := h
  refine ⟨h1, ?_⟩
  rcases h2 with h | ⟨g, cap, cur, rfl, h3, r⟩
  · exact .inl h
  · exact .inr ⟨g, cap, cur, rfl, hb g rfl, r⟩
end Go.Proofs.YthlmmfljeblflaaGreatDoor

/-! pack's reader: num, prog, list, end. -/
namespace Go.Proofs.YthlmmfljeblflaaGreatDoor
set_option linter.unusedSimpArgs false
set_option linter.unusedVariables false
open Go.RowKit Ga
set_option maxRecDepth 100000

def Keep2 (A B : Nat) (w w' : World) : Prop := w.heap.size ≤ w'.heap.size ∧ ∀ q, q < w.heap.size → q ≠ A → q ≠ B → w'.heap[q]? = w.heap[q]?
theorem Keep2.refl (A B : Nat) (w : World) : Keep2 A B w w := ⟨Nat.le_refl _, fun _ _ _ _ => rfl⟩
theorem Keep2.trans {A B : Nat} {a b c : World} (h : Keep2 A B a b) (k : Keep2 A B b c) : Keep2 A B a c :=
  ⟨Nat.le_trans h.1 k.1, fun q hq h1 h2 => (k.2 q (Nat.lt_of_lt_of_le hq h.1) h1 h2).trans (h.2 q hq h1 h2)⟩
theorem Keep2.ofGrew {A B : Nat} {w w' : World} (g : Grew w w') : Keep2 A B w w' := ⟨g.below.size, fun q hq _ _ => g.below.block q hq⟩
theorem Keep2.set {A B : Nat} {w : World} {o : Nat} {v : Value} : Keep2 A B w (w.setCell ⟨A, o, none⟩ v) := ⟨by rw [World.size_setCell]; exact Nat.le_refl _, fun q hq h _ => set_other fun e => h e.symm⟩
end Go.Proofs.YthlmmfljeblflaaGreatDoor

/-! pack's reader: prog, end. -/
namespace Go.Proofs.YthlmmfljeblflaaGreatDoor
set_option linter.unusedSimpArgs false
set_option linter.unusedVariables false
open Go.RowKit Ga
set_option maxRecDepth 100000

end Go.Proofs.YthlmmfljeblflaaGreatDoor

/-! pack's reader: node. -/
namespace Go.Proofs.YthlmmfljeblflaaGreatDoor
set_option linter.unusedSimpArgs false
set_option linter.unusedVariables false
open Go.RowKit Ga
set_option maxRecDepth 100000

/-- a node's cells, the routes as a list -/
def nodeArr (id kind : Int) (vf vp : Value) (par : Int) (rs : List Int) : Array Value := #[.int .i64 id, .int .i64 kind, vf, vp, .int .i64 par] ++ (rs.map (Value.int .i64)).toArray
theorem nodeArr_set (id kind : Int) (vf vp : Value) (par : Int) (rs : List Int) (k : Nat) (y : Int) : (nodeArr id kind vf vp par rs).setIfInBounds (5 + k) (.int .i64 y) = nodeArr id kind vf vp par (rs.set k y) := by
  unfold nodeArr
  apply Array.ext'
  simp only [Array.toList_setIfInBounds, Array.toList_append, List.map_set]
  rw [List.set_append_right _ _ (by simp)]
  simp
theorem nodeArr_get (id kind : Int) (vf vp : Value) (par : Int) (rs : List Int) (k : Nat) (h : k < rs.length) : (nodeArr id kind vf vp par rs)[5 + k]? = some (.int .i64 rs[k]) := by
  unfold nodeArr
  rw [Array.getElem?_append_right (by simp)]
  simp [h]
end Go.Proofs.YthlmmfljeblflaaGreatDoor

/-! pack's reader: nodes; sorted; GetGraph. -/
namespace Go.Proofs.YthlmmfljeblflaaGreatDoor
set_option linter.unusedSimpArgs false
set_option linter.unusedVariables false
open Go.RowKit Ga
set_option maxRecDepth 100000

end Go.Proofs.YthlmmfljeblflaaGreatDoor

/-! pack.sorted: the nodes stand by their numbers. -/
namespace Go.Proofs.YthlmmfljeblflaaGreatDoor
set_option linter.unusedSimpArgs false
set_option linter.unusedVariables false
open Go.RowKit Ga
set_option maxRecDepth 100000

end Go.Proofs.YthlmmfljeblflaaGreatDoor

/-! pack.GetGraph. -/
namespace Go.Proofs.YthlmmfljeblflaaGreatDoor
set_option linter.unusedSimpArgs false
set_option linter.unusedVariables false
open Go.RowKit Ga
set_option maxRecDepth 100000

theorem NodesAt.nil (w : World) : NodesAt w (.slice none 0 0) [] := ⟨[], RowsAt.nil, rfl, fun i c n h => by simp at h⟩
end Go.Proofs.YthlmmfljeblflaaGreatDoor

/-! [8]int: equal. -/
namespace Go.Proofs.YthlmmfljeblflaaGreatDoor
set_option linter.unusedSimpArgs false
set_option linter.unusedVariables false
open Go.RowKit Ga
set_option maxRecDepth 100000
set_option maxHeartbeats 4000000 in
theorem eq8 (r0 r1 r2 r3 r4 r5 r6 r7 s0 s1 s2 s3 s4 s5 s6 s7 : Int) (w : World) : (binOp .eql 39 (.agg #[.int .i64 r0, .int .i64 r1, .int .i64 r2, .int .i64 r3, .int .i64 r4, .int .i64 r5, .int .i64 r6, .int .i64 r7]) (.agg #[.int .i64 s0, .int .i64 s1, .int .i64 s2, .int .i64 s3, .int .i64 s4, .int .i64 s5, .int .i64 s6, .int .i64 s7])).run Tryz.prog w = .ok (.bool (decide ([r0, r1, r2, r3, r4, r5, r6, r7] = [s0, s1, s2, s3, s4, s5, s6, s7]))) w := by
  have u3 := Tryz.underlying3
  have a3 := Tryz.isAgg3
  have z3 := Tryz.sizeOf3
  obtain ⟨i, hi⟩ : ∃ i, Tryz.prog.info? 3 = some i := info_of_underlying u3
  rw [run_eql_struct, show (10000 : Nat) = 9999 + 1 from rfl, run_equalIn_array w 9999 _ _ Tryz.underlying39 hi]
  rw [show Tryz.prog.cellsOf 3 = 1 by kernel_rfl]
  rw [show List.range 8 = [0, 1, 2, 3, 4, 5, 6, 7] from rfl]
  simp only [Op.eqItems]
  go_simp
  by_cases h0 : r0 = s0
  · by_cases h1 : r1 = s1
    · by_cases h2 : r2 = s2
      · by_cases h3 : r3 = s3
        · by_cases h4 : r4 = s4
          · by_cases h5 : r5 = s5
            · by_cases h6 : r6 = s6
              · by_cases h7 : r7 = s7
                · simp [h0, h1, h2, h3, h4, h5, h6, h7]
                · simp [h0, h1, h2, h3, h4, h5, h6, h7]
              · simp [h0, h1, h2, h3, h4, h5, h6]
            · simp [h0, h1, h2, h3, h4, h5]
          · simp [h0, h1, h2, h3, h4]
        · simp [h0, h1, h2, h3]
      · simp [h0, h1, h2]
    · simp [h0, h1]
  · simp [h0]
end Go.Proofs.YthlmmfljeblflaaGreatDoor

/-! forebayref13.num, Node, Graph. -/
namespace Go.Proofs.YthlmmfljeblflaaGreatDoor
set_option linter.unusedSimpArgs false
set_option linter.unusedVariables false
open Go.RowKit Ga
set_option maxRecDepth 100000

end Go.Proofs.YthlmmfljeblflaaGreatDoor

/-! forebayref13.Graph. -/
namespace Go.Proofs.YthlmmfljeblflaaGreatDoor
set_option linter.unusedSimpArgs false
set_option linter.unusedVariables false
open Go.RowKit Ga
set_option maxRecDepth 100000

end Go.Proofs.YthlmmfljeblflaaGreatDoor

/-! octet.Writer.Num where a number does not fit: nothing is written. -/
namespace Go.Proofs.YthlmmfljeblflaaGreatDoor
set_option linter.unusedSimpArgs false
set_option linter.unusedVariables false
open Go.RowKit Ga
set_option maxRecDepth 100000

end Go.Proofs.YthlmmfljeblflaaGreatDoor

/-! pack.putNode, whatever the node. -/
namespace Go.Proofs.YthlmmfljeblflaaGreatDoor
set_option linter.unusedSimpArgs false
set_option linter.unusedVariables false
open Go.RowKit Ga
set_option maxRecDepth 100000

end Go.Proofs.YthlmmfljeblflaaGreatDoor

/-! pack.putPlan. -/
namespace Go.Proofs.YthlmmfljeblflaaGreatDoor
set_option linter.unusedSimpArgs false
set_option linter.unusedVariables false
open Go.RowKit Ga
set_option maxRecDepth 100000

theorem take_snocS {β : Type} (f : Gr.Stp → List β) (l : List Gr.Stp) (k : Nat) (h : k < l.length) : (l.take (k + 1)).flatMap f = (l.take k).flatMap f ++ f l[k] := by
  rw [List.take_succ_eq_append_getElem h, List.flatMap_append]
  simp
/-- what is written of the first k steps -/
def WroteS (p : List Gr.Stp) (k : Nat) (X : List UInt8) : Prop := X.length ≤ k * 1010 ∧ ((∀ s ∈ p.take k, Gr.OkB fitsP 0 (Gr.cleanS s).nd) → X = (p.take k).flatMap (Gr.putSt putI))
theorem WroteS.next {p : List Gr.Stp} {k : Nat} {X xs : List UInt8} {kd rs : Int} (h : WroteS p k X) (hk : k < p.length) (h1 : (Gr.cleanS p[k]).kind = kd) (h2 : (if (Gr.cleanS p[k]).reset then (1:Int) else 0) = rs) (h3 : xs.length ≤ 1000) (h4 : Gr.OkB fitsP 0 (Gr.cleanS p[k]).nd → xs = Gr.putNd putI (Gr.cleanS p[k]).nd) :
    WroteS p (k + 1) (X ++ (Oc.be kd ++ Oc.be rs) ++ xs) := by
  refine ⟨?_, fun hall => ?_⟩
  · have := h.1
    simp only [List.length_append, Oc.be_len]
    omega
  · have htk : p.take (k + 1) = p.take k ++ [p[k]] := List.take_succ_eq_append_getElem hk
    rw [take_snocS _ _ _ hk, h.2 fun s hs => hall s (by rw [htk]; exact List.mem_append_left _ hs), h4 (hall _ (by rw [htk]; exact List.mem_append_right _ (List.mem_singleton.2 rfl)))]
    unfold Gr.putSt
    rw [h1, h2]
    simp only [List.append_assoc]
end Go.Proofs.YthlmmfljeblflaaGreatDoor

/-! forebayref08.Check, cut: the frame, the code from a region on. -/
namespace Go.Proofs.YthlmmfljeblflaaGreatDoor
set_option linter.unusedSimpArgs false
set_option linter.unusedVariables false
open Go.RowKit Ga
set_option maxRecDepth 100000

end Go.Proofs.YthlmmfljeblflaaGreatDoor

/-! forebayref08.Check, cut: the routes. -/
namespace Go.Proofs.YthlmmfljeblflaaGreatDoor
set_option linter.unusedSimpArgs false
set_option linter.unusedVariables false
open Go.RowKit Ga
set_option maxRecDepth 100000

end Go.Proofs.YthlmmfljeblflaaGreatDoor

/-! forebayref08.Check, cut: how many Froms; the program. -/
namespace Go.Proofs.YthlmmfljeblflaaGreatDoor
set_option linter.unusedSimpArgs false
set_option linter.unusedVariables false
open Go.RowKit Ga
set_option maxRecDepth 100000

end Go.Proofs.YthlmmfljeblflaaGreatDoor

/-! forebayref08.Check, cut: each From. -/
namespace Go.Proofs.YthlmmfljeblflaaGreatDoor
set_option linter.unusedSimpArgs false
set_option linter.unusedVariables false
open Go.RowKit Ga
set_option maxRecDepth 100000

end Go.Proofs.YthlmmfljeblflaaGreatDoor

/-! forebayref08.Check, cut: none above itself. -/
namespace Go.Proofs.YthlmmfljeblflaaGreatDoor
set_option linter.unusedSimpArgs false
set_option linter.unusedVariables false
open Go.RowKit Ga
set_option maxRecDepth 100000

end Go.Proofs.YthlmmfljeblflaaGreatDoor

/-! forebayref08.Check. -/
namespace Go.Proofs.YthlmmfljeblflaaGreatDoor
set_option linter.unusedSimpArgs false
set_option linter.unusedVariables false
open Go.RowKit Ga
set_option maxRecDepth 100000

end Go.Proofs.YthlmmfljeblflaaGreatDoor

/-! forebayref13.Plan, cut: the frame; kind; what is told of a step. -/
namespace Go.Proofs.YthlmmfljeblflaaGreatDoor
set_option linter.unusedSimpArgs false
set_option linter.unusedVariables false
open Go.RowKit Ga
set_option maxRecDepth 100000

def OkP (z : Gr.Stp) : Prop := 0 ≤ z.nd.id ∧ z.nd.id ≤ 7 ∧ 0 ≤ z.nd.kind ∧ z.nd.kind ≤ 2 ∧ z.nd.frm.length ≤ 3 ∧ 0 ≤ z.nd.par ∧ z.nd.par ≤ 3 ∧ Co.fitsI z.nd.prog = true
end Go.Proofs.YthlmmfljeblflaaGreatDoor

/-! forebayref13.Plan, cut: From and routes. -/
namespace Go.Proofs.YthlmmfljeblflaaGreatDoor
set_option linter.unusedSimpArgs false
set_option linter.unusedVariables false
open Go.RowKit Ga
set_option maxRecDepth 100000

end Go.Proofs.YthlmmfljeblflaaGreatDoor

/-! forebayref13.Plan. -/
namespace Go.Proofs.YthlmmfljeblflaaGreatDoor
set_option linter.unusedSimpArgs false
set_option linter.unusedVariables false
open Go.RowKit Ga
set_option maxRecDepth 100000

end Go.Proofs.YthlmmfljeblflaaGreatDoor

/-! forebayref13.Plan. -/
namespace Go.Proofs.YthlmmfljeblflaaGreatDoor
set_option linter.unusedSimpArgs false
set_option linter.unusedVariables false
open Go.RowKit Ga
set_option maxRecDepth 100000

end Go.Proofs.YthlmmfljeblflaaGreatDoor
