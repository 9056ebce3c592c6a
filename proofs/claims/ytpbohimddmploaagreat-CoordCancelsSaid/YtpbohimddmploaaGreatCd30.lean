import Derived.Test.YtpbohimddmploaaGreatCd25
import Derived.Test.YtpbohimddmploaaGreatCd6
import Derived.Test.YtpbohimddmploaaGreatCd24
import Derived.Deep.QuietTactic
import Derived.BigQuiet
import Derived.Deep.RegionHeld3
import Derived.Test.YtpbohimddmploaaGreatCd21
import Derived.Test.YtpbohimddmploaaGreatCd22
set_option linter.unusedSimpArgs false
set_option linter.unusedVariables false
set_option maxRecDepth 100000
set_option maxHeartbeats 64000000
namespace Go.Proofs.YtpbohimddmploaaGreat
open Go.RowKit Ga

def tasksOf (g : List Gr.Nd) : List Who := g.flatMap fun n => (List.range n.par.toNat).map fun (k : Nat) => (n.id, (k : Int))
theorem tasksOf_snoc (g : List Gr.Nd) (n : Gr.Nd) : tasksOf (g ++ [n]) = tasksOf g ++ (List.range n.par.toNat).map fun (k : Nat) => (n.id, (k : Int)) := by
  unfold tasksOf
  rw [List.flatMap_append, List.flatMap_cons, List.flatMap_nil, List.append_nil]
theorem tasksOf_len : ∀ (g : List Gr.Nd), (∀ n ∈ g, n.par ≤ 3) → (tasksOf g).length ≤ g.length * 3
  | [], _ => by simp [tasksOf]
  | n :: g, h => by
    have h1 := tasksOf_len g fun x hx => h x (List.mem_cons_of_mem _ hx)
    have h2 := h n (List.mem_cons_self ..)
    unfold tasksOf at h1 ⊢
    rw [List.flatMap_cons, List.length_append, List.length_map, List.length_range, List.length_cons]
    omega
theorem perm_so {l l' : List Gr.Nd} (hp : l'.Perm l) (h : l.Pairwise fun a b => a.id < b.id) (h' : l'.Pairwise fun a b => a.id ≤ b.id) : l' = l := by
  have hu : (l.map (·.id)).Nodup := by
    rw [List.Nodup, List.pairwise_map]
    exact h.imp fun {a b} q e => by omega
  have hu' : (l'.map (·.id)).Nodup := (hp.map (·.id)).nodup_iff.2 hu
  have hs' : l'.Pairwise fun a b => a.id < b.id := by
    rw [List.Nodup, List.pairwise_map] at hu'
    exact (h'.and hu').imp fun {a b} ⟨q1, q2⟩ => by omega
  exact hp.eq_of_pairwise (le := fun a b : Gr.Nd => a.id < b.id) (fun a b _ _ h1 h2 => by omega) hs' h
theorem norm_so (v : Value) (l : List Gr.Nd) (w : World) (hv : NodesAt w v l) (hs : Small l) (hl : l.length ≤ 19) (ho : l.Pairwise fun a b => a.id < b.id) : Calls Tryz.prog 58 #[v] w (fun e w' => ∃ v', e = .returned v' ∧ NodesAt w' v' l ∧ Grew w w') := by
  refine (norm_any v l w hv hs hl).mono ?_
  rintro e w' ⟨v', lc, l', rfl, h1, h2, h3, h4, g⟩
  obtain rfl := perm_so h3 ho h4
  exact ⟨v', rfl, h2.at h1, g⟩
def encWho (x : Who) : List Value := [.int .i64 x.1, .int .i64 x.2]
theorem encWho_len (x : Who) : (encWho x).length = 2 := rfl
theorem encWho_one (x : Who) : ∀ u ∈ encWho x, u.oneCell' = true := by
  intro u hu
  simp [encWho] at hu
  rcases hu with rfl | rfl <;> rfl
theorem infoWho : (Tryz.prog.info? 182).map (fun i => (i.zero, i.size, i.bytes)) = some (some (.agg #[.int .i64 0, .int .i64 0]), 2, 16) := by kernel_rfl
theorem who_at (W : World) (x : Who) (t : TypeId) (b : Nat) {c : Array Value} (hc : c = (encWho x).toArray) (hb : b = W.heap.size) : ∀ j u, (([x] : List Who).flatMap encWho)[j]? = some u → (W.alloc (.cells c t)).cell? ⟨b, j, none⟩ = some u := by
  subst hc
  intro j u hu
  rw [new_cells W _ t b hb j]
  simpa using hu
def TasksPost (g : List Gr.Nd) (w : World) (e : Ending) (w' : World) : Prop := ∃ a c, e = .returned (.slice a (tasksOf g).length c) ∧ OwnAt w.heap.size 182 2 encWho w' (.slice a (tasksOf g).length c) (tasksOf g) ∧ Grew w w'
theorem snapAll_any (v : Value) (g : List Gr.Nd) (w : World) (hv : NodesAt w v g) (hs : Small g) (hl : g.length ≤ 8) (ho : g.Pairwise fun a b => a.id < b.id) (hp : ∀ n ∈ g, 0 ≤ n.par ∧ n.par ≤ 3) : Calls Tryz.prog 131 #[v] w (TasksPost g w) := by
  have HN := Lib.hid fun W (q : Grew w W) => norm_so v g W (hv.grew q) hs (by omega) ho
  have HP := Lib.hid hp
  have HLK := Lib.hid fun k => tasksOf_len (g.take k) fun n hn => (hp n (List.mem_of_mem_take hn)).2
  clear hv hs ho hp
  go_enter Tryz.func131, Tryz.ntmps131
  go_wp2_with (go_at_call 58; refine (HN.out _ (by repeat (first | with_reducible exact Grew.refl _ | apply Grew.more | apply Grew.alloc | apply Grew.drew | apply Grew.drewN))).mono ?_; rintro e w1 ⟨v1, rfl, hv1, R1, n1, rfl⟩; obtain ⟨a1, c1, rfl, hm1, -⟩ := hv1.openC; (have HV1 := Lib.hid hv1); clear hv1)
  have HG1 : Hid (Grew w (w.more R1 n1)) := Lib.hid (by repeat (first | with_reducible exact Grew.refl _ | apply Grew.more | apply Grew.alloc | apply Grew.drew | apply Grew.drewN))
  generalize hw1 : w.more R1 n1 = w1 at *
  clear hw1
  go_loopg [3, 10] g.length (fun gg s3 s10 wr => ∃ k : Nat, k ≤ g.length ∧ g.length - k ≤ gg ∧ s10 = .int .i64 k ∧ Hid (Grew w1 wr) ∧ Hid (OwnAt w1.heap.size 182 2 encWho wr s3 (tasksOf (g.take k))))
  case atStart => exact ⟨0, by omega, by omega, rfl, Lib.hid (Grew.refl _), Lib.hid (OwnAt.nil _)⟩
  case round =>
    obtain ⟨k, hk, hgg, rfl, HG, HO⟩ := hrel
    by_cases hlt : k < g.length
    · obtain ⟨a', cap', e, -, hx⟩ := (HV1.out.grew HG.out).openC
      cases e
      obtain ⟨b, off, c, rfl, hb, hn, c0, c1, c2, c3, c4, c5, c6, c7, c8, c9, c10, c11, c12⟩ := hx k hlt
      obtain ⟨p0, p3⟩ := HP.out _ (List.getElem_mem hlt)
      have HTK := Lib.hid (show tasksOf (g.take (k + 1)) = _ by rw [List.take_succ_eq_append_getElem hlt, tasksOf_snoc])
      have hln := HLK.out k
      rw [List.length_take, Nat.min_eq_left hk] at hln
      have hid := hn.id
      have hpar := hn.par
      clear hx hn
      generalize g[k] = y at *
      obtain ⟨cid, kind, af, nf, cf, ap, np, cp, par, r0, r1, r2, r3, r4, r5, r6, r7⟩ := c
      simp only at c0 c1 c2 c3 c4 c5 c6 c7 c8 c9 c10 c11 c12 hid hpar
      obtain ⟨p, hp⟩ : ∃ p : Nat, par = (p : Int) := ⟨par.toNat, by omega⟩
      subst hp
      have HPN : Hid (y.par.toNat = p) := Lib.hid (by omega)
      have hp3 : p ≤ 3 := by omega
      have HID := Lib.hid hid
      clear hid hpar p0 p3
      go_wp2
      go_loopg [3, 16] p (fun gg2 s3' s16 wr2 => ∃ j : Nat, j ≤ p ∧ p - j ≤ gg2 ∧ s16 = .int .i64 j ∧ Hid (Grew w1 wr2) ∧ Hid (wr2.heap[wr.heap.size]? = some (.cells #[.int .i64 cid, .int .i64 kind, .slice af nf cf, .slice ap np cp, .int .i64 (p : Int), .int .i64 r0, .int .i64 r1, .int .i64 r2, .int .i64 r3, .int .i64 r4, .int .i64 r5, .int .i64 r6, .int .i64 r7] 56)) ∧ Hid (OwnAt w1.heap.size 182 2 encWho wr2 s3' (tasksOf (g.take k) ++ (List.range j).map fun (i : Nat) => (y.id, (i : Int)))))
      case atStart => exact ⟨0, by omega, by omega, rfl, Lib.hid (HG.out.trans (by repeat (first | with_reducible exact Grew.refl _ | apply Grew.more | apply Grew.alloc | apply Grew.drew | apply Grew.drewN))), Lib.hid (heap_new_at _ _ _ rfl), Lib.hid (by rw [List.range_zero, List.map_nil, List.append_nil]; exact OwnAt.grew HO.out (by repeat (first | with_reducible exact Grew.refl _ | apply Grew.more | apply Grew.alloc | apply Grew.drew | apply Grew.drewN)))⟩
      case round =>
        obtain ⟨j, hj, hgg2, rfl, HG2, HB2, HO2⟩ := hrel
        by_cases hlt2 : j < p
        · have d0 := cell_of (o := 0) HB2.out
          have d4 := cell_of (o := 4) HB2.out
          simp at d0 d4
          have pd := Pre.mk (heap_lt HB2.out)
          have HRS : Hid (((List.range (j + 1)).map fun (i : Nat) => (y.id, (i : Int))) = ((List.range j).map fun (i : Nat) => (y.id, (i : Int))) ++ [(y.id, (j : Int))]) := Lib.hid (by rw [List.range_succ, List.map_append]; rfl)
          go_wp2_with (at_builtin; go_loud (refine wpList_ownK (w0 := w1) rfl (.tmp 19) (.tmp 24) 202 _ _ _ _ [(cid, (j : Int))] rfl Tryz.underlying202 infoWho rfl (by decide) encWho_len encWho_one rfl (OwnAt.grew HO2.out (by repeat (first | with_reducible exact Grew.refl _ | apply Grew.more | apply Grew.alloc | apply Grew.drew | apply Grew.drewN))) (HG2.out.trans (by repeat (first | with_reducible exact Grew.refl _ | apply Grew.more | apply Grew.alloc | apply Grew.drew | apply Grew.drewN))) rfl (who_at _ _ _ _ rfl (by simp [go_sem])) (by simp; omega) (by decide) (by simp) ?_); intro v7 W7 hA; (have HA := Lib.hid hA); clear hA)
          go_roundg (p - (j + 1))
          case measure => omega
          case rel =>
            obtain ⟨q1, q2, q3, q4, q5⟩ := HA.out
            refine ⟨j + 1, by omega, by omega, by go_num, Lib.hid q1, Lib.hid ?_, Lib.hid ?_⟩
            · rw [q4 _ (by have := heap_lt HB2.out; simp [go_sem]; omega) (OwnAt.other HO2.out HB2.out (by decide))]
              exact grew_heap (by repeat (first | with_reducible exact Grew.refl _ | apply Grew.more | apply Grew.alloc | apply Grew.drew | apply Grew.drewN)) HB2.out
            · rw [HRS.out, ← List.append_assoc, HID.out]
              rw [HID.out] at q2
              exact q2
        · obtain rfl : j = p := by omega
          have d4 := cell_of (o := 4) HB2.out
          simp at d4
          have pd := Pre.mk (heap_lt HB2.out)
          go_wp2
          go_roundg (g.length - (k + 1))
          case measure => omega
          case rel => exact ⟨k + 1, by omega, by omega, by go_num, Lib.hid (HG2.out.trans (by repeat (first | with_reducible exact Grew.refl _ | apply Grew.more | apply Grew.alloc | apply Grew.drew | apply Grew.drewN))), Lib.hid (by rw [HTK.out, HPN.out]; exact OwnAt.grew HO2.out (by repeat (first | with_reducible exact Grew.refl _ | apply Grew.more | apply Grew.alloc | apply Grew.drew | apply Grew.drewN)))⟩
    · obtain rfl : k = g.length := by omega
      have ho := HO.out
      rw [List.take_length] at ho
      obtain ⟨av, cv, rfl⟩ := (OwnAt.rows ho encWho_len).len
      have HO9 := Lib.hid ho
      clear ho
      go_wp2
      go_ret
      exact ⟨_, _, rfl, OwnAt.low HO9.out HG1.out.below.size, HG1.out.trans HG.out⟩
def SlLen (n : Nat) (v : Value) (_ : World) : Prop := ∃ a c, v = .slice a n c
theorem SlLen.st (n : Nat) : ∀ v w w', SlLen n v w → Grew w w' → SlLen n v w' := fun _ _ _ h _ => h
theorem gather_par {W : World} {x b n : Nat} {g : List Gr.Nd} {ep : Int} {m : List (Who × AkC)} (h : GatherAt W x b n g ep m) : ∀ n ∈ g, 1 ≤ n.par ∧ n.par ≤ 3 := fun y hy => by
  obtain ⟨i, hi, e⟩ := List.mem_iff_getElem.1 hy
  have := h.right.ok i y (by rw [List.getElem?_eq_getElem hi, e])
  exact ⟨this.pr1, this.pr3⟩
theorem missing_any (x b n : Nat) (g : List Gr.Nd) (ep : Int) (m : List (Who × AkC)) (w : World) (h : GatherAt w x b n g ep m) (hn : n ≤ 1000) : Calls Tryz.prog 77 #[.pointer (some ⟨x, 0, none⟩)] w (Gives (.int .i64 ((tasksOf g).length - m.length)) w) := by
  have hgp := gather_par h
  have htl := tasksOf_len g fun y hy => (hgp y hy).2
  have hl8 := h.len
  have hml := h.map.len_le
  obtain ⟨v, hx, hv⟩ := h.cells
  have HA := Lib.hid fun W (q : Grew w W) => snapAll_any v g W (hv.grew q) h.small h.len h.so fun y hy => by have := hgp y hy; omega
  have HLEN := Lib.hid fun W (q : Grew w W) => (h.map.grew q).len Tryz.underlying174 3
  have x0 := cell_of (o := 0) hx
  have x2 := cell_of (o := 2) hx
  simp at x0 x2
  have px := Pre.mk (heap_lt hx)
  obtain ⟨av, cv, rfl, -, -⟩ := hv.openC
  clear h hgp hx hv
  go_enter Tryz.func77, Tryz.ntmps77
  go_wp2
  refine wp_region_seq 13 Tryz.mixed (by kernel_rfl) (by kernel_rfl) ?_
  iterate 4
    apply Seq.val
    focus
      rintro w1 u ⟨R1, n1, rfl⟩ hF
      simp [moreFacts, Fact.more, Oper.deps, Region.binds, List.filter_cons, World.more_drew] at hF
      simp [putFacts, Oper.deps, Region.binds, List.filter_cons, Region.dstOf, Fact.at, Act.put, World.more_drew]
      go_wp2
      exact ⟨by repeat (first | with_reducible exact Grew.refl _ | apply Grew.more | apply Grew.alloc | apply Grew.drew | apply Grew.drewN), rfl, _, _, rfl, rfl, rfl⟩
  apply Seq.of (SlLen (tasksOf g).length) (SlLen.st _)
  focus
    rintro w1 u ⟨R1, n1, rfl⟩ hF
    simp [moreFacts, Fact.more, Oper.deps, Region.binds, List.filter_cons, World.more_drew] at hF
    simp [putFacts, Oper.deps, Region.binds, List.filter_cons, Region.dstOf, Fact.at, Act.put, World.more_drew]
    go_wp2_with (first
      | (go_at_call 131; go_loud (refine (HA.out _ (by repeat (first | with_reducible exact Grew.refl _ | apply Grew.more | apply Grew.alloc | apply Grew.drew | apply Grew.drewN))).mono ?_); rintro e w2 ⟨a2, c2, rfl, -, R3, n3, rfl⟩)
      )
    exact ⟨by repeat (first | with_reducible exact Grew.refl _ | apply Grew.more | apply Grew.alloc | apply Grew.drew | apply Grew.drewN), rfl, _, _, rfl, rfl, ⟨_, _, rfl⟩⟩
  apply Seq.val
  focus
    rintro w1 u ⟨R1, n1, rfl⟩ hF
    simp [moreFacts, Fact.more, Oper.deps, Region.binds, List.filter_cons, World.more_drew] at hF
    simp [putFacts, Oper.deps, Region.binds, List.filter_cons, Region.dstOf, Fact.at, Act.put, World.more_drew]
    obtain ⟨a2, c2, hu⟩ := hF; rw [hu]
    go_wp2
    exact ⟨by repeat (first | with_reducible exact Grew.refl _ | apply Grew.more | apply Grew.alloc | apply Grew.drew | apply Grew.drewN), rfl, _, _, rfl, rfl, rfl⟩
  iterate 4
    apply Seq.val
    focus
      rintro w1 u ⟨R1, n1, rfl⟩ hF
      simp [moreFacts, Fact.more, Oper.deps, Region.binds, List.filter_cons, World.more_drew] at hF
      simp [putFacts, Oper.deps, Region.binds, List.filter_cons, Region.dstOf, Fact.at, Act.put, World.more_drew]
      go_wp2
      exact ⟨by repeat (first | with_reducible exact Grew.refl _ | apply Grew.more | apply Grew.alloc | apply Grew.drew | apply Grew.drewN), rfl, _, _, rfl, rfl, rfl⟩
  apply Seq.val
  focus
    rintro w1 u ⟨R1, n1, rfl⟩ hF
    simp [moreFacts, Fact.more, Oper.deps, Region.binds, List.filter_cons, World.more_drew] at hF
    simp [putFacts, Oper.deps, Region.binds, List.filter_cons, Region.dstOf, Fact.at, Act.put, World.more_drew]
    have hlm := HLEN.out (w.more R1 n1) (by repeat (first | with_reducible exact Grew.refl _ | apply Grew.more | apply Grew.alloc | apply Grew.drew | apply Grew.drewN))
    go_wp2
    exact ⟨by repeat (first | with_reducible exact Grew.refl _ | apply Grew.more | apply Grew.alloc | apply Grew.drew | apply Grew.drewN), rfl, _, _, rfl, rfl, rfl⟩
  iterate 2
    apply Seq.val
    focus
      rintro w1 u ⟨R1, n1, rfl⟩ hF
      simp [moreFacts, Fact.more, Oper.deps, Region.binds, List.filter_cons, World.more_drew] at hF
      simp [putFacts, Oper.deps, Region.binds, List.filter_cons, Region.dstOf, Fact.at, Act.put, World.more_drew]
      go_wp2
      exact ⟨by repeat (first | with_reducible exact Grew.refl _ | apply Grew.more | apply Grew.alloc | apply Grew.drew | apply Grew.drewN), rfl, _, _, rfl, rfl, rfl⟩
  rintro u w1 ⟨R1, n1, rfl⟩ hF
  clear hF
  simp [putFacts, Region.dstOf, Fact.at, Act.put, List.range_succ, World.more_drew]
  go_wp2
  go_ret
  exact ⟨by rfl, by repeat (first | with_reducible exact Grew.refl _ | apply Grew.more | apply Grew.alloc | apply Grew.drew | apply Grew.drewN)⟩

theorem right_norm {g : List Gr.Nd} (h : Gr.RightR g) : Gr.RightR (Gr.normG g) := h.perm (Gr.normG_perm h.ids h.r7).symm
theorem right_par {g : List Gr.Nd} (h : Gr.RightR g) : ∀ n ∈ g, (1 ≤ n.par ∧ n.par ≤ 3) ∧ ∀ t ∈ n.route, 0 ≤ t ∧ t < n.par := fun n hn => by
  obtain ⟨i, hi, e⟩ := List.mem_iff_getElem.1 hn
  have := h.ok i n (by rw [List.getElem?_eq_getElem hi, e])
  exact ⟨⟨this.pr1, this.pr3⟩, this.rt⟩
theorem nodeOf_norm {g : List Gr.Nd} (h : Gr.RightR g) (x : Int) : Gr.nodeOf (Gr.normG g) x = Gr.nodeOf g x := by
  have hp := Gr.normG_perm h.ids h.r7
  exact Gr.bind_perm hp ((Gr.perm_ids hp).nodup_iff.2 h.ids) x
theorem checkR_pos {g : List Gr.Nd} (h : ¬ Gr.RightR g) : (checkR g != 0) = true := by
  by_cases h8 : g.length ≤ 8
  · rw [checkR_bad h8 h]; rfl
  · rw [checkR_long (by omega)]; rfl
theorem checkR_nil {g : List Gr.Nd} (h : Gr.RightR g) : checkR g = 0 := checkR_ok h.len h
theorem small_norm {g : List Gr.Nd} (h : Gr.RightR g) (hs : Small g) : Small (Gr.normG g) := fun n hn => hs n ((Gr.normG_mem h.ids h.r7 n).1 hn)
theorem normO_any (v : Value) (g : List Gr.Nd) (w : World) (hv : NodesAt w v g) (hs : Small g) (h : Gr.RightR g) : Calls Tryz.prog 58 #[v] w (fun e w' => ∃ v' lc, e = .returned v' ∧ NodesOwn w.heap.size w' v' lc ∧ NodesIn w.heap.size w' lc (Gr.normG g) ∧ Grew w w') := by
  refine (norm_any v g w hv hs (by have := h.len; omega)).mono ?_
  rintro e w' ⟨v', lc, l', rfl, h1, h2, h3, h4, gw⟩
  obtain rfl := Gr.norm_unique h3 h4 h.ids h.r7
  exact ⟨v', lc, rfl, h1, h2, gw⟩
def NodesV (base : Nat) (g : List Gr.Nd) (v : Value) (w : World) : Prop := ∃ a c lc, v = .slice a g.length c ∧ NodesOwn base w v lc ∧ NodesIn base w lc g
theorem NodesV.keep {base : Nat} {g : List Gr.Nd} {v : Value} {w w' : World} (h : NodesV base g v w) (hk : ∀ b, base ≤ b → b < w.heap.size → w'.heap[b]? = w.heap[b]?) : NodesV base g v w' := by
  obtain ⟨a, c, lc, h1, h2, h3⟩ := h
  refine ⟨a, c, lc, h1, OwnAt.same h2 fun b hb => ?_, Rel.mono (fun c n ⟨q1, q2⟩ => ?_) h3⟩
  · obtain ⟨q, cs, hc⟩ := OwnAt.block h2 hb
    exact hk b q (heap_lt hc)
  · have q3 := q2.to hk
    exact ⟨q3.is q1, q3⟩
theorem NodesV.st (base : Nat) (g : List Gr.Nd) : ∀ v w w', NodesV base g v w → Grew w w' → NodesV base g v w' := fun _ _ _ h q => h.keep fun b _ hb => q.below.block b hb
theorem NodesV.low {base base' : Nat} {g : List Gr.Nd} {v : Value} {w : World} (h : NodesV base g v w) (hb : base' ≤ base) : NodesV base' g v w := by
  obtain ⟨a, c, lc, h1, h2, h3⟩ := h
  exact ⟨a, c, lc, h1, OwnAt.low h2 hb, Rel.mono (fun c n ⟨q1, q2⟩ => ⟨q1, q2.low hb⟩) h3⟩
theorem NodesV.at' {base : Nat} {g : List Gr.Nd} {v : Value} {w : World} (h : NodesV base g v w) : NodesAt w v g := by
  obtain ⟨a, c, lc, h1, h2, h3⟩ := h
  exact h3.at h2

theorem clean49_5 (id kd par r0 r1 r2 r3 r4 r5 r6 r7 : Int) (af ap : Option Addr) (nf cf np cp : Nat) (reset : Bool) (s : Gr.Stp) (w : World) (hn : StepIs w ⟨5, ⟨id, kd, af, nf, cf, ap, np, cp, par, r0, r1, r2, r3, r4, r5, r6, r7⟩, reset⟩ s) (hs : s.nd.frm.length ≤ 1000 ∧ s.nd.prog.length ≤ 1000) : Calls Tryz.prog 108 #[.agg #[.int .i64 5, .int .i64 id, .int .i64 kd, .slice af nf cf, .slice ap np cp, .int .i64 par, .int .i64 r0, .int .i64 r1, .int .i64 r2, .int .i64 r3, .int .i64 r4, .int .i64 r5, .int .i64 r6, .int .i64 r7, .bool reset]] w (CleanGives (Gr.cleanS s) w) := by
  have hcl := hn.clean
  have HCL := Lib.hid hcl
  have HN := Lib.hid hn
  have H1 := Lib.hid fun W (g : Grew w W) => cloneInts_any _ s.nd.frm W (HN.out.nd.f.grew g) hs.1
  have H2 := Lib.hid fun W (g : Grew w W) => cloneVals_any _ s.nd.prog W (HN.out.nd.p.grew g) hs.2
  have HND := Lib.hid hn.nd
  have HS := Lib.hid hs
  have HK := Lib.hid hn.kind
  clear hn hcl hs
  go_enter Tryz.func108, Tryz.ntmps108
  go_upto_region 14 with fail
  refine wp_region_noPanic ?_
  go_region_law (first
    | (go_simp; go_at_call 83; refine (H1.out _ (by repeat (first | with_reducible exact Grew.refl _ | apply Grew.more | apply Grew.alloc | apply Grew.drew | apply Grew.drewN))).mono ?_; rintro e w1 ⟨v1, rfl, ho1, R3, n3, rfl⟩; obtain ⟨a1, c1, rfl⟩ := (ho1.rows encN_len).len; (have HO1 := Lib.hid ho1); clear ho1))
  all_goals
    refine NoPanic.normal ?_
    go_wp2
    refine bodyPost_ret (res_clean49 rfl (grew_heap ((Grew.refl _).more _ _) (heap_alloc' (heap_alloc' (heap_new_at (w.alloc _) _ _ (by simp [World.size_alloc])) _) _))) rfl ?_
    refine clean_made5 HN.out (OwnAt.low (OwnAt.same HO1.out fun b hb => heap_more_same (by simp [World.size_alloc]) _ _ _ (by have := HO1.out.lt b hb; simp [World.size_alloc] at this ⊢; omega)) (by simp [World.size_alloc]; omega)) (by repeat (first | with_reducible exact Grew.refl _ | apply Grew.more | apply Grew.alloc | apply Grew.drew | apply Grew.drewN))
end Go.Proofs.YtpbohimddmploaaGreat
