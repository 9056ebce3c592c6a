import Derived.Test.YtangapokicnfgaaGreatMr20
/-! graph.sort. -/
namespace Go.Proofs.YtangapokicnfgaaGreat
set_option linter.unusedSimpArgs false
set_option linter.unusedVariables false
open Go.RowKit Ga
set_option maxRecDepth 100000

def firstScope : Code → Option Code
  | .scope c => some c
  | .seq a b => match firstScope a with
    | some c => some c
    | none => firstScope b
  | .block _ c => firstScope c
  | .loop c => firstScope c
  | _ => none
/-- the code from the label on -/
def afterSkip : Option Code → Code
  | some (.seq .skip r) => r
  | _ => .skip
noncomputable def tail76 : Code := afterSkip ((Tryz.f76.body.bind firstScope).bind fun c => findLabel c 0)
theorem wp_scope_jumps1' {P : Program} {a : Act} {w : World} {Q : Exit → Act → World → Prop} {c rest : Code} (l : Nat) (J : Act → World → Prop) (μ : Act → World → Nat) (hf : findLabel c l = some (.seq .skip rest))
    (pass : ∀ a w, J a w → rest.wp P (Exit.jump l (fun a' w' => J a' w' ∧ μ a' w' < μ a w) Q) a w)
    (first : (∀ a w, J a w → rest.wp P (Exit.jump l J Q) a w) → c.wp P (Exit.jump l J Q) a w) : (Code.scope c).wp P Q a w :=
  wp_scope_jumps l J μ hf (first fun a w h => Code.wp_mono (fun e a' w' hq => by
    cases e with
    | goto l' => exact ⟨hq.1, hq.2.1⟩
    | _ => exact hq) (pass a w h)) (fun a w h => wp_skip_seq (pass a w h))
def frame76 (vn : Value) (B C : Nat) (u : Nat → Value) : Act := { tmps := #[vn, u 1, .slice none 0 0, .pointer (some ⟨B, 0, none⟩), .pointer (some ⟨C, 0, none⟩), u 5, u 6, u 7, u 8, u 9, u 10, u 11, u 12, u 13, u 14, u 15, u 16, u 17, u 18, u 19, u 20, u 21, u 22, u 23, u 24, u 25, u 26, u 27, u 28, u 29, u 30, u 31, u 32, u 33, u 34], defers := [] }
theorem arr35 (t : Array Value) (h : t.size = 35) : t = #[t.getD 0 undef, t.getD 1 undef, t.getD 2 undef, t.getD 3 undef, t.getD 4 undef, t.getD 5 undef, t.getD 6 undef, t.getD 7 undef, t.getD 8 undef, t.getD 9 undef, t.getD 10 undef, t.getD 11 undef, t.getD 12 undef, t.getD 13 undef, t.getD 14 undef, t.getD 15 undef, t.getD 16 undef, t.getD 17 undef, t.getD 18 undef, t.getD 19 undef, t.getD 20 undef, t.getD 21 undef, t.getD 22 undef, t.getD 23 undef, t.getD 24 undef, t.getD 25 undef, t.getD 26 undef, t.getD 27 undef, t.getD 28 undef, t.getD 29 undef, t.getD 30 undef, t.getD 31 undef, t.getD 32 undef, t.getD 33 undef, t.getD 34 undef] := by
  have e : t = (Array.range 35).map fun i => t.getD i undef := by
    refine Array.ext (by simp [h]) fun i h1 h2 => ?_
    simp only [Array.getElem_map, Array.getElem_range]
    rw [Array.getD_eq_getD_getElem?, Array.getElem?_eq_getElem h1]
    rfl
  have e2 : Array.range 35 = #[0, 1, 2, 3, 4, 5, 6, 7, 8, 9, 10, 11, 12, 13, 14, 15, 16, 17, 18, 19, 20, 21, 22, 23, 24, 25, 26, 27, 28, 29, 30, 31, 32, 33, 34] := by decide +kernel
  rw [e2] at e
  exact e.trans (by simp)
structure Frame76 (vn : Value) (B C : Nat) (a : Act) : Prop where
  n : a.tmps.size = 35
  d : a.defers = []
  v : a.tmps[0]? = some vn
  r : a.tmps[2]? = some (.slice none 0 0)
  b : a.tmps[3]? = some (.pointer (some ⟨B, 0, none⟩))
  c : a.tmps[4]? = some (.pointer (some ⟨C, 0, none⟩))
theorem Frame76.get {vn : Value} {B C : Nat} {a : Act} (h : Frame76 vn B C a) : ∃ u, a = frame76 vn B C u := by
  obtain ⟨t, d⟩ := a
  obtain ⟨h1, h2, h3, h4, h5, h6⟩ := h
  simp only at h1 h2 h3 h4 h5 h6
  refine ⟨fun i => t.getD i undef, ?_⟩
  have e := arr35 t h1
  have g : ∀ i v, t[i]? = some v → t.getD i undef = v := fun i v h => by rw [Array.getD_eq_getD_getElem?, h]; rfl
  rw [g 0 _ h3, g 2 _ h4, g 3 _ h5, g 4 _ h6] at e
  unfold frame76
  rw [← e, h2]
/-- what holds at each jump -/
structure NormAt (w w1 : World) (B base : Nat) (vn : Value) (lc : List NdC) (l' : List Gr.Nd) : Prop where
  own : NodesOwn base w1 vn lc
  ins : NodesIn base w1 lc l'
  b : ∃ c, w1.heap[B]? = some (.cells c 41)
  small : Small l'
  l19 : l'.length ≤ 19
def Jump76 (w : World) (B C : Nat) (l : List Gr.Nd) (a' : Act) (w' : World) : Prop := ∃ (w1 : World) (base : Nat) (vn vo : Value) (lc : List NdC) (l' : List Gr.Nd) (out : List Int),
  NormAt w w1 B base vn lc l' ∧ l'.Perm l ∧ Frame76 vn B C a' ∧ SortAt w w1 B C w' vo out ∧ Gr.Ord l' out ∧ Gr.sortG l' (l'.length + 1 - out.length) out = Gr.sortG l' (l'.length + 1) []
def mu76 (B n : Nat) (_ : Act) (w' : World) : Nat := n + 1 - sliceLen ((w'.cell? ⟨B, 0, none⟩).getD undef)
def End76 (w : World) (l : List Gr.Nd) (a' : Act) (w' : World) : Prop := ∃ (v : Value) (l' : List Gr.Nd), a'.tmps[2]? = some v ∧ a'.defers = [] ∧ IntsAt w' v (Gr.sortG l' (l'.length + 1) []) ∧ l'.Perm l ∧ Grew w w'
theorem infoInt1 : (Tryz.prog.info? 3).map (fun i => (i.zero, i.size, i.bytes)) = some (some (.int .i64 0), 1, 8) := by kernel_rfl
theorem encN_one (x : Int) : ∀ u ∈ encN x, u.oneCell' = true := by intro u hu; simp [encN] at hu; subst hu; rfl
theorem int_at (W : World) (x : Int) (t : TypeId) (b : Nat) {c : Array Value} (hc : c = #[.int .i64 x]) (hb : b = W.heap.size) : ∀ j u, (([x] : List Int).flatMap encN)[j]? = some u → (W.alloc (.cells c t)).cell? ⟨b, j, none⟩ = some u := by
  subst hc
  intro j u hu
  rw [new_cells W _ t b hb j]
  simpa [encN] using hu
theorem sortG_stop {l : List Gr.Nd} {out : List Int} (h : Gr.nextS l out = none) : ∀ k, Gr.sortG l k out = out
  | 0 => rfl
  | k + 1 => by rw [Gr.sortG, h]
set_option maxHeartbeats 8000000 in
theorem sort_pass (w w1 W : World) (B C base : Nat) (vn vo : Value) (lc : List NdC) (l l' : List Gr.Nd) (out : List Int) (u : Nat → Value) (Q : Exit → Act → World → Prop)
    (hn : NormAt w w1 B base vn lc l') (hp : l'.Perm l) (hs : SortAt w w1 B C W vo out) (ho : Gr.Ord l' out) (hg : Gr.sortG l' (l'.length + 1 - out.length) out = Gr.sortG l' (l'.length + 1) [])
    (hret : ∀ a' w', End76 w l a' w' → Q .ret a' w') (hjump : ∀ a' w', Jump76 w B C l a' w' → mu76 B l.length a' w' < l.length + 1 - out.length → Q (.goto 0) a' w') :
    Code.wp Tryz.prog tail76 Q (frame76 vn B C u) W := by
  conv => arg 2; whnf
  unfold frame76
  have HN := Lib.hid hn
  have HS := Lib.hid hs
  have HO := Lib.hid ho
  have HG := Lib.hid hg
  have HP := Lib.hid hp
  have HR := Lib.hid hret
  have HJ := Lib.hid hjump
  have hol := ho.le
  have hpl := hp.length_eq
  have hll := hn.l19
  have HPL := Lib.hid hpl
  obtain ⟨a, cap, rfl⟩ : ∃ a cap, vn = .slice a l'.length cap := by
    obtain ⟨a, cap, e⟩ := (OwnAt.rows hn.own encNd_len).len
    rw [Rel.len hn.ins] at e
    exact ⟨a, cap, e⟩
  clear hn hs ho hg hp hret hjump hpl
  go_wp2
  go_loopg [12] l'.length (fun gg s12 wr => ∃ k : Nat, k ≤ l'.length ∧ l'.length - k ≤ gg ∧ s12 = .int .i64 k ∧ Hid (SortAt w w1 B C wr vo out) ∧ Hid (∀ j (hj : j < l'.length), j < k → standP out l'[j] = false))
  case atStart => exact ⟨0, Nat.zero_le _, by omega, rfl, HS, Lib.hid fun j _ h => by omega⟩
  case round =>
    obtain ⟨k, hk, hgg, rfl, HS2, HNO⟩ := hrel
    by_cases hlt : k < l'.length
    · obtain ⟨a', cap', e, -, hx⟩ := (HS2.out.nodes HN.out.own HN.out.ins HN.out.b).openC
      cases e
      obtain ⟨b, off, c, rfl, hb, hn, c0, c1, c2, c3, c4, c5, c6, c7, c8, c9, c10, c11, c12⟩ := hx k hlt
      clear hx
      have hst := standP_eq out l'[k]
      generalize hy : l'[k] = y at *
      have HY := Lib.hid hy
      have hid := hn.id
      have HNc := Lib.hid hn
      have hcB := cell_of (o := 0) HS2.out.b
      have hcC := cell_of (o := 0) HS2.out.c
      have hfB := frozen_of (o := 0) HS2.out.b
      simp at hcB hcC
      have hpB := Pre.mk (heap_lt HS2.out.b)
      have hpC := Pre.mk (heap_lt HS2.out.c)
      have hrows : IntsAt wr vo out := HS2.out.own.rows encN_len
      have HP2 := Lib.hid fun W (g : Grew wr W) => containsFn_any c.vf y.frm 113 #[.pointer (some ⟨C, 0, none⟩)] (fun x => !decide (x ∈ out)) W (HNc.out.f.grew g) enters113 (fun W' x g' => sort2_pred out vo B C wr hrows hpB hcB hpC hcC W' x (g.trans g'))
      have eg := enters112
      obtain ⟨ao, co, rfl⟩ := hrows.len
      obtain ⟨cid, kind, af, cf, ap, cp, par, r0, r1, r2, r3, r4, r5, r6, r7, rfl⟩ := HNc.out.lit
      simp only at c0 c1 c2 c3 c4 c5 c6 c7 c8 c9 c10 c11 c12 hid HP2
      rw [hid] at hst
      have hp1 : ∀ W, Grew wr W → Calls Tryz.prog 112 #[.int .i64 cid, .pointer (some ⟨B, 0, none⟩)] W (Gives (.bool (decide (cid ∈ out))) W) := fun W g => sort1_pred out _ B wr hrows hpB hcB W cid g
      clear hn hrows hy
      generalize hq1 : decide (cid ∈ out) = q1 at *
      have HP1 := Lib.hid hp1
      have HQ1 := Lib.hid hq1
      clear hq1 hp1
      generalize hq2 : (y.frm.any fun f => !decide (f ∈ out)) = q2 at *
      have HQ2 := Lib.hid hq2
      clear hq2
      have HID := Lib.hid hid
      have HST := Lib.hid hst
      clear hid hst
      cases q1 with
      | true =>
        go_wp2_with (go_at_fn 112; go_loud (refine (HP1.out _ (by repeat (first | with_reducible exact Grew.refl _ | apply Grew.more | apply Grew.alloc | apply Grew.drew | apply Grew.drewN))).mono ?_; rintro e w2 ⟨rfl, R3, n3, rfl⟩))
        go_roundg (l'.length - (k + 1))
        case measure => omega
        case rel => exact ⟨k + 1, by omega, by omega, by go_num, Lib.hid (HS2.out.grew (by repeat (first | with_reducible exact Grew.refl _ | apply Grew.more | apply Grew.alloc | apply Grew.drew | apply Grew.drewN))), Lib.hid fun j hj h => by
          rcases Nat.lt_or_ge j k with h1 | h1
          · exact HNO.out j hj h1
          · obtain rfl : j = k := by omega
            rw [HY.out, HST.out]
            rfl⟩
      | false =>
        cases q2 with
        | true =>
          go_wp2_with (first
            | (go_at_fn 112; refine (HP1.out _ (by repeat (first | with_reducible exact Grew.refl _ | apply Grew.more | apply Grew.alloc | apply Grew.drew | apply Grew.drewN))).mono ?_; rintro e w2 ⟨rfl, R3, n3, rfl⟩)
            | (go_at_call 61; refine (HP2.out _ (by repeat (first | with_reducible exact Grew.refl _ | apply Grew.more | apply Grew.alloc | apply Grew.drew | apply Grew.drewN))).mono ?_; rintro e w2 ⟨rfl, R4, n4, rfl⟩))
          go_roundg (l'.length - (k + 1))
          case measure => omega
          case rel => exact ⟨k + 1, by omega, by omega, by go_num, Lib.hid (HS2.out.grew (by repeat (first | with_reducible exact Grew.refl _ | apply Grew.more | apply Grew.alloc | apply Grew.drew | apply Grew.drewN))), Lib.hid fun j hj h => by
            rcases Nat.lt_or_ge j k with h1 | h1
            · exact HNO.out j hj h1
            · obtain rfl : j = k := by omega
              rw [HY.out, HST.out]
              rfl⟩
        | false =>
          have hnx : Gr.nextS l' out = some cid := by
            have hf : l'.find? (standP out) = some y := List.find?_eq_some_iff_getElem.2 ⟨by rw [HST.out]; rfl, k, hlt, HY.out, fun j hj => by rw [HNO.out j (by omega) hj]; rfl⟩
            rw [standP_next, hf, Option.map_some, HID.out]
          have HNX := Lib.hid hnx
          have hlen : out.length + 1 ≤ 1000000 := by omega
          clear hnx
          go_wp2_with (first
            | (go_at_fn 112; refine (HP1.out _ (by repeat (first | with_reducible exact Grew.refl _ | apply Grew.more | apply Grew.alloc | apply Grew.drew | apply Grew.drewN))).mono ?_; rintro e w2 ⟨rfl, R3, n3, rfl⟩)
            | (go_at_call 61; refine (HP2.out _ (by repeat (first | with_reducible exact Grew.refl _ | apply Grew.more | apply Grew.alloc | apply Grew.drew | apply Grew.drewN))).mono ?_; rintro e w2 ⟨rfl, R4, n4, rfl⟩)
            | (at_builtin; go_loud (refine wpList_ownK (w0 := w) rfl (.tmp 28) (.tmp 31) 41 _ _ _ _ [cid] rfl Tryz.underlying41 infoInt1 rfl (by decide) encN_len encN_one rfl (OwnAt.grew HS2.out.own (by repeat (first | with_reducible exact Grew.refl _ | apply Grew.more | apply Grew.alloc | apply Grew.drew | apply Grew.drewN))) (HS2.out.g.trans (by repeat (first | with_reducible exact Grew.refl _ | apply Grew.more | apply Grew.alloc | apply Grew.drew | apply Grew.drewN))) rfl (int_at _ _ _ _ rfl (by simp [go_sem])) (by simpa using hlen) (by decide) (by simp) ?_; intro v5 W5 hA; (have hs5 := (HS2.out.grew (by repeat (first | with_reducible exact Grew.refl _ | apply Grew.more | apply Grew.alloc | apply Grew.drew | apply Grew.drewN))).push hA); obtain ⟨hB5, hS5⟩ := hs5; obtain ⟨b5, c5, rfl⟩ := own_some' hA.2.1 (by simp); (have cB5 := cell_of (o := 0) hB5); (have fB5 := frozen_of (o := 0) hB5); (have pB5 := Pre.mk (heap_lt hB5)); simp at cB5; simp only [List.length_append, List.length_cons, List.length_nil, Nat.zero_add] at hS5; (have HS5 := Lib.hid hS5); clear hS5 hB5 hA)))
          go_step3
          have hmu : mu76 B l.length { tmps := #[], defers := [] } (W5.setCell ⟨B, 0, none⟩ (.slice (some ⟨b5, 0, none⟩) (out.length + 1) c5)) < l.length + 1 - out.length := by
            unfold mu76
            rw [cell_of (o := 0) HS5.out.b]
            simp [sliceLen]
            have := HPL.out
            omega
          have hgg2 : Gr.sortG l' (l'.length + 1 - (out ++ [cid]).length) (out ++ [cid]) = Gr.sortG l' (l'.length + 1) [] := by
            rw [← HG.out, List.length_append, show l'.length + 1 - out.length = (l'.length - out.length) + 1 by omega, Gr.sortG, HNX.out]
            simp
          exact HJ.out _ _ ⟨w1, base, _, _, lc, l', out ++ [cid], HN.out, HP.out, ⟨rfl, rfl, rfl, rfl, rfl, rfl⟩, HS5.out, HO.out.step HNX.out, hgg2⟩ hmu
    · obtain rfl : k = l'.length := by omega
      have hcB := cell_of (o := 0) HS2.out.b
      simp at hcB
      have hpB := Pre.mk (heap_lt HS2.out.b)
      have hrows := HS2.out.own.rows encN_len
      obtain ⟨ao, co, rfl⟩ := hrows.len
      have HRW := Lib.hid hrows
      clear hrows
      have hnx : Gr.nextS l' out = none := by
        rw [standP_next, List.find?_eq_none.2 fun x hx => by
          obtain ⟨j, hj, rfl⟩ := List.mem_iff_getElem.1 hx
          rw [HNO.out j hj hj]
          simp]
        rfl
      have hend : out = Gr.sortG l' (l'.length + 1) [] := by rw [← HG.out, sortG_stop hnx]
      have HE := Lib.hid hend
      clear hnx hend
      go_wp2
      refine HR.out _ _ ⟨_, l', rfl, rfl, ?_, HP.out, HS2.out.g⟩
      rw [← HE.out]
      exact HRW.out

/-- the order of the nodes by their numbers -/
def SortGives (l : List Gr.Nd) (w : World) (e : Ending) (w' : World) : Prop := ∃ (v : Value) (l' : List Gr.Nd), e = .returned v ∧ IntsAt w' v (Gr.sortG l' (l'.length + 1) []) ∧ l'.Perm l ∧ Grew w w'
set_option maxHeartbeats 8000000 in
theorem sort_any (v : Value) (l : List Gr.Nd) (w : World) (hv : NodesAt w v l) (hs : Small l) (hl : l.length ≤ 19) : Calls Tryz.prog 76 #[v] w (SortGives l w) := by
  have HM := Lib.hid fun W (g : Grew w W) => norm_any v l W (hv.grew g) hs hl
  have HS := Lib.hid hs
  obtain ⟨a, cap, rfl, hm, -⟩ := hv.openC
  clear hv hs
  go_enter Tryz.func76, Tryz.ntmps76
  go_wp2
  refine wp_scope_jumps1' 0 (Jump76 w w.heap.size (w.heap.size + 1) l) (mu76 w.heap.size l.length) rfl ?_ ?_
  · rintro a1 W ⟨w1, base, vn, vo, lc, l', out, hn, hp, hf, hs, ho, hg⟩
    obtain ⟨u, rfl⟩ := hf.get
    have hle := ho.le
    refine sort_pass w w1 W _ _ base vn vo lc l l' out u _ hn hp hs ho hg (fun a' w' he => ?_) (fun a' w' hj hmu => ⟨rfl, hj, ?_⟩)
    · obtain ⟨v, l2, h1, h2, h3, h4, h5⟩ := he
      refine bodyPost_ret (v := v) ?_ h2 ⟨v, l2, rfl, h3, h4, h5⟩
      simp [results, Tryz.results76, go_sem]
      rw [h1]
      rfl
    · have e : mu76 w.heap.size l.length (frame76 vn w.heap.size (w.heap.size + 1) u) W = l.length + 1 - out.length := by
        unfold mu76
        rw [cell_of (o := 0) hs.b]
        obtain ⟨ao, co, e⟩ := (hs.own.rows encN_len).len
        rw [e]
        rfl
      rw [e]
      exact hmu
  · intro hfirst
    go_wp2_with (go_at_call 77; go_loud (refine (HM.out _ (by repeat (first | with_reducible exact Grew.refl _ | apply Grew.more | apply Grew.alloc | apply Grew.drew | apply Grew.drewN))).mono ?_; rintro e w1 ⟨vn, lc, l', rfl, ho, hi, hp, -, R3, n3, rfl⟩; obtain ⟨an, cn, rfl⟩ := (OwnAt.rows ho encNd_len).len; (have HO := Lib.hid ho); (have HI := Lib.hid hi); (have HP := Lib.hid hp); clear ho hi hp))
    go_step3
    have hB : (((w.alloc (.cells #[.slice none 0 0] 41)).alloc (.cells #[.func (.func 112) #[] #[.pointer (some ⟨w.heap.size, 0, none⟩)]] 108)).more R3 n3).heap[w.heap.size]? = some (.cells #[.slice none 0 0] 41) := grew_heap (by repeat (first | with_reducible exact Grew.refl _ | apply Grew.more | apply Grew.alloc | apply Grew.drew | apply Grew.drewN)) (heap_new_at w _ _ rfl)
    have hC : (((w.alloc (.cells #[.slice none 0 0] 41)).alloc (.cells #[.func (.func 112) #[] #[.pointer (some ⟨w.heap.size, 0, none⟩)]] 108)).more R3 n3).heap[w.heap.size + 1]? = some (.cells #[.func (.func 112) #[] #[.pointer (some ⟨w.heap.size, 0, none⟩)]] 108) := grew_heap (Grew.more (Grew.refl _) R3 n3) (heap_new_at (w.alloc (.cells #[.slice none 0 0] 41)) _ _ (by rw [World.size_alloc]))
    rename_i hK
    refine hK _ _ (hfirst _ _ ⟨_, _, .slice an lc.length cn, .slice none 0 0, lc, l', [], ⟨HO.out, HI.out, ⟨_, hB⟩, fun n hn => HS.out n (HP.out.mem_iff.1 hn), by rw [HP.out.length_eq]; exact hl⟩, HP.out, ?_,
      ⟨Keep.ofGrew (Grew.refl _), by repeat (first | with_reducible exact Grew.refl _ | apply Grew.more | apply Grew.alloc | apply Grew.drew | apply Grew.drewN), OwnAt.nil _, (fun q h => by cases h), hB, hC, Nat.le_refl _⟩, Gr.Ord.nil _, by simp⟩)
    exact ⟨rfl, rfl, rfl, rfl, rfl, rfl⟩
end Go.Proofs.YtangapokicnfgaaGreat
