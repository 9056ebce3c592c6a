import Derived.Test.YtlgbipfpnfphjaaGreatDoorGb0
import Derived.Test.YtlgbipfpnfphjaaGreatDoorGb9
import Derived.Test.YtlgbipfpnfphjaaGreatDoorGb4
import Derived.Test.YtlgbipfpnfphjaaGreatDoorGb8
import Derived.Test.YtlgbipfpnfphjaaGreatDoorGb6
import Derived.Deep.RegionLaw
import Derived.Deep.RegionHeld3
import Derived.Lib.SlicesCompact
import Derived.Test.YtlgbipfpnfphjaaGreatDoorGb5
/-! slices.Clone at numbers and at instructions; graph.own. -/
namespace Go.Proofs.YtlgbipfpnfphjaaGreatDoor
set_option linter.unusedSimpArgs false
set_option linter.unusedVariables false
open Go.RowKit Ga
set_option maxRecDepth 100000

def MadeOf (P : Value → World → Prop) (w : World) (e : Ending) (w' : World) : Prop := ∃ v, e = .returned v ∧ P v w' ∧ Grew w w'
theorem cloneInts_any (v : Value) (l : List Int) (w : World) (hv : IntsAt w v l) (hl : l.length ≤ 1000) : Calls Tryz.prog 106 #[v] w (MadeOf (fun v' w' => OwnAt w.heap.size 3 1 encN w' v' l) w) := by
  obtain ⟨a, cap, rfl, hm, hx⟩ := ints_open hv
  cases a with
  | none =>
    have h0 : l = [] := by
      cases l with
      | nil => rfl
      | cons x l => obtain ⟨b, off, h, _⟩ := hx 0 (by simp); cases h
    subst h0
    exact (Tryz.slices_Clone_int_nil _ _ _).mono fun e w' ⟨he, hw⟩ => ⟨_, he, OwnAt.nil _, hw ▸ Grew.refl w⟩
  | some ad =>
    cases l with
    | nil => exact (Tryz.slices_Clone_int_zero ad cap w).mono fun e w' ⟨v', he, ho, _, hb⟩ => ⟨v', he, ho, Grew.ofBelow hb⟩
    | cons x l =>
      obtain ⟨b, off, h, _⟩ := hx 0 (by simp)
      cases h
      refine (Tryz.slices_Clone_int b off _ cap (x :: l) w (Nat.le_refl _) (by simp at hl ⊢; omega) fun j hj => ?_).mono fun e w' ⟨v', he, ho, _, hb⟩ => ⟨v', he, ?_, Grew.ofBelow hb⟩
      · obtain ⟨b', off', h, _, hc⟩ := hx j hj
        cases h
        rw [List.getD_eq_getElem?_getD, List.getElem?_eq_getElem hj]
        exact hc
      · unfold OwnAt
        rw [List.take_of_length_le (Nat.le_refl _)] at ho
        have e1 : (x :: l).flatMap encN = (x :: l).map (Value.int .i64) := by
          generalize x :: l = l
          induction l with
          | nil => rfl
          | cons x l ih => rw [List.flatMap_cons, ih]; rfl
        rw [e1]
        exact ho

theorem addr_add (b off j : Nat) : (⟨b, off, none⟩ : Addr).add j = ⟨b, off + j, none⟩ := by
  unfold Addr.add; split
  · rename_i h; have : j = 0 := by simpa using h
    rw [this]; rfl
  · rfl
theorem cloneVals_any (v : Value) (l : List Val) (w : World) (hv : ValsAt w v l) (hl : l.length ≤ 1000) : Calls Tryz.prog 104 #[v] w (MadeOf (fun v' w' => OwnAt w.heap.size 124 2 encI w' v' l) w) := by
  obtain ⟨a, cap, rfl, hm, hx⟩ := hv
  cases a with
  | none =>
    have h0 : l = [] := by
      cases l with
      | nil => rfl
      | cons x l => obtain ⟨b, off, h, _⟩ := hx (by simp); cases h
    subst h0
    exact (AnyE.slices_Clone_nil Tryz.cloneInstr _ _ _).mono fun e w' ⟨he, hw⟩ => ⟨_, he, OwnAt.nil _, hw ▸ Grew.refl w⟩
  | some ad =>
    have hnews : ∀ j u, (l.flatMap encI)[j]? = some u → (w.alloc (.cells #[] 124)).cell? (ad.add j) = some u := by
      intro j u hj
      obtain ⟨q, y, r, h1, h2, rfl⟩ := flat_inv encI_len l j u hj
      obtain ⟨b, off, h, hc⟩ := hx (by intro e; subst e; simp at h1)
      cases h
      rw [addr_add]
      have h3 := hc q y h1 r u h2
      rw [Nat.add_assoc] at h3
      exact Lib.cell?_alloc_some _ h3
    have HN := Lib.hid hnews
    obtain ⟨i, hi, hz0, hz1, hz2⟩ := info_parts infoIns
    have q22 : ∀ (w : World) (a : Option Addr) (n c n' c' : Nat), (binOp .eql 46 (.slice a n c) (.slice none n' c')).run Tryz.prog w = .ok (.bool a.isNone) w := fun w a n c n' c' => Lib.run_eql_slice_nil w _ _ a n c n' c' Tryz.underlying46
    clear hnews hx
    go_enter Tryz.func104, Tryz.ntmps104
    go_wp2_with (at_builtin; refine wpList_append_own _ rfl _ _ 46 rfl w.heap.size 124 i _ 2 16 Tryz.underlying46 hi hz0 hz1 hz2 rfl (by decide) _ _ _ rfl (World.ownsRow_made w #[] 0 (Nat.le_refl _) (Nat.zero_le _) rfl) ad l.length cap (l.flatMap encI) rfl (flat_length encI_len l) HN.out (by intro u hu; obtain ⟨y, _, hy⟩ := List.mem_flatMap.1 hu; exact encI_one y u hy) (by unfold maxLen; omega) (by omega) (by simp) ?_)
    intro v' w1 hown hgrow hnil
    go_wp2
    go_ret
    refine ⟨v', rfl, ?_, Grew.ofBelow (((Below.refl _ w).alloc (Nat.le_refl _) _).grown hgrow (by simp) (by intro k hk; simp [Value.ownBlock] at hk; omega))⟩
    unfold OwnAt
    simpa using hown

theorem heap_more_same {W W' : World} (hs : W.heap.size = W'.heap.size) (R : Array Obj) (n b : Nat) (hb : W.heap.size ≤ b) : (W'.more R n).heap[b]? = (W.more R n).heap[b]? := by
  rw [heap_more_in W R n b hb, heap_more_in W' R n b (by omega), hs]
/-- its slices lie behind 'base' -/
def OwnsNd (base : Nat) (w : World) (c : NdC) (n : Gr.Nd) : Prop := OwnAt base 3 1 encN w c.vf n.frm ∧ OwnAt base 124 2 encI w c.vp n.prog
theorem OwnsNd.to {base : Nat} {w w' : World} {c : NdC} {n : Gr.Nd} (o : OwnsNd base w c n) (hb : ∀ b, base ≤ b → b < w.heap.size → w'.heap[b]? = w.heap[b]?) : OwnsNd base w' c n := by
  refine ⟨OwnAt.same o.1 fun b h => ?_, OwnAt.same o.2 fun b h => ?_⟩
  · obtain ⟨h1, _, h2⟩ := OwnAt.block o.1 h
    exact hb b h1 (heap_lt h2)
  · obtain ⟨h1, _, h2⟩ := OwnAt.block o.2 h
    exact hb b h1 (heap_lt h2)
theorem OwnsNd.is {base : Nat} {w w' : World} {c : NdC} {n : Gr.Nd} (o : OwnsNd base w' c n) (h : NodeIs w c n) : NodeIs w' c n :=
  { h with f := o.1.rows encN_len, p := o.2.rows encI_len }
theorem OwnsNd.low {base base' : Nat} {w : World} {c : NdC} {n : Gr.Nd} (o : OwnsNd base w c n) (hb : base' ≤ base) : OwnsNd base' w c n := ⟨OwnAt.low o.1 hb, OwnAt.low o.2 hb⟩
theorem OwnsNd.grew {base : Nat} {w w' : World} {c : NdC} {n : Gr.Nd} (o : OwnsNd base w c n) (g : Grew w w') : OwnsNd base w' c n := ⟨o.1.grew g, o.2.grew g⟩
/-- a node comes back that is the same, in memory of its own -/
def GivesNode (n : Gr.Nd) (w : World) (e : Ending) (w' : World) : Prop := ∃ c : NdC, e = .returned (.agg #[.int .i64 c.id, .int .i64 c.kind, .slice c.af c.nf c.cf, .slice c.ap c.np c.cp, .int .i64 c.par, .int .i64 c.r0, .int .i64 c.r1, .int .i64 c.r2, .int .i64 c.r3, .int .i64 c.r4, .int .i64 c.r5, .int .i64 c.r6, .int .i64 c.r7]) ∧ NodeIs w' c n ∧ OwnsNd w.heap.size w' c n ∧ Grew w w'
theorem OwnAt.cap {α : Type} {base : Nat} {e : TypeId} {k : Nat} {enc : α → List Value} {w : World} {a : Option Addr} {n cap : Nat} {l : List α} (h : OwnAt base e k enc w (.slice a n cap) l) : l.length ≤ cap := by
  obtain ⟨h1, h2⟩ := h
  rcases h2 with ⟨h, h0⟩ | ⟨g, cap', cur, hv, hb, hh, hc, r⟩
  · rw [h0]; exact Nat.zero_le _
  · cases hv; exact hc
theorem node_made {w w' : World} (c : NdC) {c0 : NdC} {n : Gr.Nd} (h : NodeIs w c0 n) (ei : c0.id = c.id) (ek : c0.kind = c.kind) (ep : c0.par = c.par) (e0 : c0.r0 = c.r0) (e1 : c0.r1 = c.r1) (e2 : c0.r2 = c.r2) (e3 : c0.r3 = c.r3) (e4 : c0.r4 = c.r4) (e5 : c0.r5 = c.r5) (e6 : c0.r6 = c.r6) (e7 : c0.r7 = c.r7)
    (o1 : OwnAt w.heap.size 3 1 encN w' c.vf n.frm) (o2 : OwnAt w.heap.size 124 2 encI w' c.vp n.prog) (g : Grew w w') : GivesNode n w (.returned (.agg #[.int .i64 c.id, .int .i64 c.kind, .slice c.af c.nf c.cf, .slice c.ap c.np c.cp, .int .i64 c.par, .int .i64 c.r0, .int .i64 c.r1, .int .i64 c.r2, .int .i64 c.r3, .int .i64 c.r4, .int .i64 c.r5, .int .i64 c.r6, .int .i64 c.r7])) w' :=
  ⟨c, rfl, ⟨h.id.trans ei, h.kind.trans ek, o1.rows encN_len, o2.rows encI_len, h.par.trans ep, by rw [h.route, e0, e1, e2, e3, e4, e5, e6, e7], OwnAt.cap o1⟩, ⟨o1, o2⟩, g⟩
set_option maxHeartbeats 4000000 in
theorem own_any (c : NdC) (n : Gr.Nd) (w : World) (hn : NodeIs w c n) (hf : n.frm.length ≤ 1000) (hp : n.prog.length ≤ 1000) : Calls Tryz.prog 138 #[.agg #[.int .i64 c.id, .int .i64 c.kind, .slice c.af c.nf c.cf, .slice c.ap c.np c.cp, .int .i64 c.par, .int .i64 c.r0, .int .i64 c.r1, .int .i64 c.r2, .int .i64 c.r3, .int .i64 c.r4, .int .i64 c.r5, .int .i64 c.r6, .int .i64 c.r7]] w (GivesNode n w) := by
  obtain ⟨id, kind, af, cf, ap, cp, par, r0, r1, r2, r3, r4, r5, r6, r7, rfl⟩ := hn.lit
  have HN := Lib.hid hn
  clear hn
  have h1 := fun W (g : Grew w W) => cloneInts_any _ n.frm W (HN.out.f.grew g) hf
  have h2 := fun W (g : Grew w W) => cloneVals_any _ n.prog W (HN.out.p.grew g) hp
  have H1 := Lib.hid h1
  have H2 := Lib.hid h2
  clear h1 h2
  show Calls Tryz.prog 138 #[.agg #[.int .i64 id, .int .i64 kind, .slice af n.frm.length cf, .slice ap n.prog.length cp, .int .i64 par, .int .i64 r0, .int .i64 r1, .int .i64 r2, .int .i64 r3, .int .i64 r4, .int .i64 r5, .int .i64 r6, .int .i64 r7]] w _
  go_enter Tryz.func138, Tryz.ntmps138
  go_wp2_with fail
  refine wp_region_noPanic ?_
  go_region_law (first
    | (go_simp; go_at_call 106; refine (H1.out _ (by repeat (first | with_reducible exact Grew.refl _ | apply Grew.more | apply Grew.alloc | apply Grew.drew | apply Grew.drewN))).mono ?_; rintro e w1 ⟨v1, rfl, ho1, R3, n3, rfl⟩; obtain ⟨a1, c1, rfl⟩ := (ho1.rows encN_len).len; (have HO1 := Lib.hid ho1); clear ho1)
    | (go_simp; go_at_call 104; refine (H2.out _ (by repeat (first | with_reducible exact Grew.refl _ | apply Grew.more | apply Grew.alloc | apply Grew.drew | apply Grew.drewN))).mono ?_; rintro e w1 ⟨v2, rfl, ho2, R4, n4, rfl⟩; obtain ⟨a2, c2, rfl⟩ := (ho2.rows encI_len).len; (have HO2 := Lib.hid ho2); clear ho2))
  all_goals
    refine NoPanic.normal ?_
    go_wp2
    refine bodyPost_ret (v := .agg #[.int .i64 id, .int .i64 kind, .slice a1 n.frm.length c1, .slice a2 n.prog.length c2, .int .i64 par, .int .i64 r0, .int .i64 r1, .int .i64 r2, .int .i64 r3, .int .i64 r4, .int .i64 r5, .int .i64 r6, .int .i64 r7]) (by simp [results, Tryz.results138, go_sem]) rfl ?_
    refine node_made ⟨id, kind, a1, n.frm.length, c1, a2, n.prog.length, c2, par, r0, r1, r2, r3, r4, r5, r6, r7⟩ HN.out rfl rfl rfl rfl rfl rfl rfl rfl rfl rfl rfl
      (OwnAt.low (OwnAt.grew (OwnAt.same HO1.out fun b hb => heap_more_same (by simp [World.size_alloc]) _ _ _ (by have := HO1.out.lt b hb; simp [World.size_alloc] at this ⊢; omega)) (Grew.more (Grew.refl _) R4 n4)) (by simp [World.size_alloc]; omega))
      (OwnAt.low (OwnAt.same HO2.out fun b hb => heap_more_same (by simp [World.size_alloc, World.more_size]) _ _ _ (by have := HO2.out.lt b hb; simp [World.size_alloc, World.more_size] at this ⊢; omega)) (by simp [World.size_alloc, World.more_size]; omega)) (by repeat (first | with_reducible exact Grew.refl _ | apply Grew.more | apply Grew.alloc | apply Grew.drew | apply Grew.drewN))
end Go.Proofs.YtlgbipfpnfphjaaGreatDoor

/-! slices.IndexFunc and ContainsFunc at numbers and at nodes; slices.Index and Contains at numbers. -/
namespace Go.Proofs.YtlgbipfpnfphjaaGreatDoor
set_option linter.unusedSimpArgs false
set_option linter.unusedVariables false
open Go.RowKit Ga
set_option maxRecDepth 100000

end Go.Proofs.YtlgbipfpnfphjaaGreatDoor

/-! graph.unlike: a list's numbers are unlike. -/
namespace Go.Proofs.YtlgbipfpnfphjaaGreatDoor
set_option linter.unusedSimpArgs false
set_option linter.unusedVariables false
open Go.RowKit Ga
set_option maxRecDepth 100000

theorem grewRow {α : Type} [Inhabited α] {enc : α → Value} {w0 W : World} (g : Grew w0 W) {b off : Nat} {d : Array α} (hb : w0.heap.size ≤ b) : Grew w0 (Sort.putRow enc W b off d) :=
  Grew.ofBelow (g.below.trans ⟨rfl, rfl, rfl, by rw [Sort.size_putRow]; exact Nat.le_refl _, fun k hk => by
    unfold Sort.putRow Sort.mapBlock
    simp only [Array.getElem?_modify]
    rw [if_neg (by omega)]⟩)
theorem grewAhead {w0 W : World} (g : Grew w0 W) (n : Nat) : Grew w0 (Sort.ahead W n) := g.drewN n
theorem grewOs {w0 W : World} (g : Grew w0 W) (os : Array Obj) : Grew w0 (Sort.grow W os) := g.more os W.drawn
end Go.Proofs.YtlgbipfpnfphjaaGreatDoor

/-! graph.Find; the predicates route$1, sort$1, sort$2, node$1. -/
namespace Go.Proofs.YtlgbipfpnfphjaaGreatDoor
set_option linter.unusedSimpArgs false
set_option linter.unusedVariables false
open Go.RowKit Ga
set_option maxRecDepth 100000

/-- nodes that are not too great -/
def Small (l : List Gr.Nd) : Prop := ∀ n ∈ l, n.frm.length ≤ 1000 ∧ n.prog.length ≤ 1000
end Go.Proofs.YtlgbipfpnfphjaaGreatDoor
