import Derived.Test.YthlmmfljeblflaaGreatDoorMc31
import Derived.Test.YthlmmfljeblflaaGreatDoorMc26
import Derived.Test.YthlmmfljeblflaaGreatDoorMc18
import Derived.Test.YthlmmfljeblflaaGreatDoorMc27
import Derived.Deep.QuietTactic
import Derived.BigQuiet
import Derived.Deep.LoopGhost
import Derived.Test.YthlmmfljeblflaaGreatDoorMc19
import Derived.Test.YthlmmfljeblflaaGreatDoorMc6
import Derived.Test.YthlmmfljeblflaaGreatDoorMc29
import Derived.Test.YthlmmfljeblflaaGreatDoorMc20
/-! slices.EqualFunc at nodes, graph.Same at single nodes. -/
namespace Go.Proofs.YthlmmfljeblflaaGreatDoor
set_option linter.unusedSimpArgs false
set_option linter.unusedVariables false
open Go.RowKit Ga
set_option maxRecDepth 100000

open Classical in
/-- two lists of nodes are one -/
noncomputable def eqNds (l m : List Gr.Nd) : Bool := decide (l = m)
open Classical in
theorem eqNds_true {l m : List Gr.Nd} (h : l = m) : eqNds l m = true := by unfold eqNds; exact decide_eq_true h
open Classical in
theorem eqNds_false {l m : List Gr.Nd} (h : l ≠ m) : eqNds l m = false := by unfold eqNds; exact decide_eq_false h
theorem eqNds_one (n m : Gr.Nd) : eqNds [n] [m] = eqNd n m := by
  by_cases h : n = m
  · rw [eqNd_true h, eqNds_true (by rw [h])]
  · rw [eqNd_false h, eqNds_false (by simpa using h)]
theorem eqNd_ne {n m : Gr.Nd} (h : eqNd n m = false) : n ≠ m := fun e => by rw [eqNd_true e] at h; cases h
open Classical in
theorem eqNd_at {n m : Gr.Nd} (h : eqNd n m = true) : n = m := by
  unfold eqNd at h
  exact of_decide_eq_true h
set_option maxHeartbeats 8000000 in
theorem eqFnNodes_any (v u : Value) (l m : List Gr.Nd) (w : World) (hv : NodesAt w v l) (hu : NodesAt w u m) : Calls Tryz.prog 72 #[v, u, .func (.func 73) #[] #[]] w (Gives (.bool (eqNds l m)) w) := by
  have HV := Lib.hid hv
  have HU := Lib.hid hu
  obtain ⟨a, cap, rfl, hm, -⟩ := hv.openC
  obtain ⟨a2, cap2, rfl, hm2, -⟩ := hu.openC
  clear hv hu
  by_cases hlen : l.length = m.length
  · have hD2 : ((l.length : Int) != (m.length : Int)) = false := by rw [hlen]; simp
    have HLEN := Lib.hid hlen
    clear hlen
    go_enter Tryz.func72, Tryz.ntmps72
    go_wp2
    go_loopg [17] l.length (fun gg s17 wr => ∃ g : Nat, g ≤ l.length ∧ l.length - g ≤ gg ∧ s17 = .int .i64 g ∧ Hid (Grew w wr) ∧ Hid (l.take g = m.take g))
    case atStart => exact ⟨0, by omega, by omega, rfl, Lib.hid (by repeat (first | with_reducible exact Grew.refl _ | apply Grew.more | apply Grew.alloc | apply Grew.drew | apply Grew.drewN)), Lib.hid rfl⟩
    case round =>
      obtain ⟨g, hg8, hgg, rfl, HGR, HNO⟩ := hrel
      by_cases hlt : g < l.length
      · have hlt2 : g < m.length := by have := HLEN.out; omega
        obtain ⟨av, cv, e, -, hx⟩ := (HV.out.grew HGR.out).openC
        cases e
        obtain ⟨av2, cv2, e, -, hx2⟩ := (HU.out.grew HGR.out).openC
        cases e
        obtain ⟨b, off, c, rfl, hb, hn, c0, c1, c2, c3, c4, c5, c6, c7, c8, c9, c10, c11, c12⟩ := hx g hlt
        obtain ⟨b2, off2, d, rfl, hb2, hn2, d0, d1, d2, d3, d4, d5, d6, d7, d8, d9, d10, d11, d12⟩ := hx2 g hlt2
        have HS := Lib.hid (take_eq_succ hlt hlt2 HNO.out)
        have HF := Lib.hid (neq_at hlt hlt2)
        clear hx hx2
        generalize l[g] = y at *
        generalize m[g] = z at *
        have HA := Lib.hid fun W (g : Grew wr W) => alike_any c d y z W (hn.grew g) (hn2.grew g)
        obtain ⟨cid, kind, af, cf, ap, cp, par, r0, r1, r2, r3, r4, r5, r6, r7, rfl⟩ := hn.lit
        obtain ⟨cid2, kind2, af2, cf2, ap2, cp2, par2, s0, s1, s2, s3, s4, s5, s6, s7, rfl⟩ := hn2.lit
        simp only at c0 c1 c2 c3 c4 c5 c6 c7 c8 c9 c10 c11 c12 d0 d1 d2 d3 d4 d5 d6 d7 d8 d9 d10 d11 d12
        clear hn hn2
        cases hq : eqNd y z
        · have HQ := Lib.hid hq
          have HFIN := Lib.hid (eqNds_false (HF.out (eqNd_ne hq)))
          clear hq
          go_wp2_with (go_at_call 73; refine (HA.out _ (by repeat (first | with_reducible exact Grew.refl _ | apply Grew.more | apply Grew.alloc | apply Grew.drew | apply Grew.drewN))).mono ?_; rintro e w1 ⟨rfl, R1, n1, rfl⟩; rw [HQ.out])
          go_ret
          exact ⟨by rw [HFIN.out]; rfl, HGR.out.trans (by repeat (first | with_reducible exact Grew.refl _ | apply Grew.more | apply Grew.alloc | apply Grew.drew | apply Grew.drewN))⟩
        · have HQ := Lib.hid hq
          have HS2 := Lib.hid (HS.out (eqNd_at hq))
          clear hq
          go_wp2_with (go_at_call 73; refine (HA.out _ (by repeat (first | with_reducible exact Grew.refl _ | apply Grew.more | apply Grew.alloc | apply Grew.drew | apply Grew.drewN))).mono ?_; rintro e w1 ⟨rfl, R1, n1, rfl⟩; rw [HQ.out])
          go_roundg (l.length - (g + 1))
          case measure => omega
          case rel => exact ⟨g + 1, by omega, by omega, by go_num, Lib.hid (HGR.out.trans (by repeat (first | with_reducible exact Grew.refl _ | apply Grew.more | apply Grew.alloc | apply Grew.drew | apply Grew.drewN))), HS2⟩
      · obtain rfl : g = l.length := by omega
        have hz := HNO.out
        rw [List.take_length, List.take_of_length_le (by have := HLEN.out; omega)] at hz
        have HFIN := Lib.hid (eqNds_true hz)
        clear hz
        go_wp2
        go_ret
        exact ⟨by rw [HFIN.out]; rfl, HGR.out⟩
  · have hD2 : ((l.length : Int) != (m.length : Int)) = true := by rw [bne_iff_ne]; omega
    have HFIN := Lib.hid (eqNds_false (l := l) (m := m) fun h => hlen (by rw [h]))
    clear hlen
    go_enter Tryz.func72, Tryz.ntmps72
    go_wp2
    go_ret
    exact ⟨by rw [HFIN.out]; rfl, by repeat (first | with_reducible exact Grew.refl _ | apply Grew.more | apply Grew.alloc | apply Grew.drew | apply Grew.drewN)⟩
end Go.Proofs.YthlmmfljeblflaaGreatDoor

/-! graph.Same at single nodes; pack.exact. -/
namespace Go.Proofs.YthlmmfljeblflaaGreatDoor
set_option linter.unusedSimpArgs false
set_option linter.unusedVariables false
open Go.RowKit Ga
set_option maxRecDepth 100000

theorem norm_at (v : Value) (y : Gr.Nd) (w : World) (hv : NodesAt w v [y]) (hs : y.frm.length ≤ 1000 ∧ y.prog.length ≤ 1000) : Calls Tryz.prog 33 #[v] w (fun e w' => ∃ v', e = .returned v' ∧ NodesAt w' v' [y] ∧ Grew w w') := by
  refine (norm_any v [y] w hv (fun n hn => by rw [List.mem_singleton] at hn; subst hn; exact hs) (by simp)).mono ?_
  rintro e w' ⟨v', lc, l', rfl, ho, hi, hp, -, g⟩
  obtain rfl := List.perm_singleton.1 hp
  exact ⟨v', rfl, hi.at ho, g⟩
set_option maxHeartbeats 8000000 in
theorem same_one (v u : Value) (n m : Gr.Nd) (w : World) (hv : NodesAt w v [n]) (hu : NodesAt w u [m]) (hn : n.frm.length ≤ 1000 ∧ n.prog.length ≤ 1000) (hm : m.frm.length ≤ 1000 ∧ m.prog.length ≤ 1000) : Calls Tryz.prog 38 #[v, u] w (Gives (.bool (eqNd n m)) w) := by
  have HV := Lib.hid fun W (g : Grew w W) => norm_at v n W (hv.grew g) hn
  have HU := Lib.hid fun W (g : Grew w W) => norm_at u m W (hu.grew g) hm
  have hone := eqNds_one n m
  have HONE := Lib.hid hone
  clear hv hu hone
  go_enter Tryz.func38, Tryz.ntmps38
  go_wp2_with (first
    | (go_at_call_of 33 v; refine (HV.out _ (by repeat (first | with_reducible exact Grew.refl _ | apply Grew.more | apply Grew.alloc | apply Grew.drew | apply Grew.drewN))).mono ?_; rintro e w1 ⟨v1, rfl, hv1, R1, n1, rfl⟩; (have HV1 := Lib.hid hv1); clear hv1)
    | (go_at_call_of 33 u; refine (HU.out _ (by repeat (first | with_reducible exact Grew.refl _ | apply Grew.more | apply Grew.alloc | apply Grew.drew | apply Grew.drewN))).mono ?_; rintro e w1 ⟨v2, rfl, hv2, R2, n2, rfl⟩; (have HV2 := Lib.hid hv2); clear hv2)
    | (go_at_call 72; refine (eqFnNodes_any _ _ [n] [m] _ (HV1.out.grew (by repeat (first | with_reducible exact Grew.refl _ | apply Grew.more | apply Grew.alloc | apply Grew.drew | apply Grew.drewN))) (HV2.out.grew (by repeat (first | with_reducible exact Grew.refl _ | apply Grew.more | apply Grew.alloc | apply Grew.drew | apply Grew.drewN)))).mono ?_; rintro e w1 ⟨rfl, R3, n3, rfl⟩; rw [HONE.out]))
  go_ret
  exact ⟨rfl, by repeat (first | with_reducible exact Grew.refl _ | apply Grew.more | apply Grew.alloc | apply Grew.drew | apply Grew.drewN)⟩
end Go.Proofs.YthlmmfljeblflaaGreatDoor

/-! lines: the document's example, written. -/
namespace Go.Proofs.YthlmmfljeblflaaGreatDoor
set_option linter.unusedSimpArgs false
set_option linter.unusedVariables false
open Go.RowKit Ga
set_option maxRecDepth 100000

end Go.Proofs.YthlmmfljeblflaaGreatDoor

/-! lines: the document's example, written: a place. -/
namespace Go.Proofs.YthlmmfljeblflaaGreatDoor
set_option linter.unusedSimpArgs false
set_option linter.unusedVariables false
open Go.RowKit Ga
set_option maxRecDepth 100000

end Go.Proofs.YthlmmfljeblflaaGreatDoor

/-! lines: the document's example, written: a place. -/
namespace Go.Proofs.YthlmmfljeblflaaGreatDoor
set_option linter.unusedSimpArgs false
set_option linter.unusedVariables false
open Go.RowKit Ga
set_option maxRecDepth 100000

theorem itoa_0 : Lib.itoa 0 = [48] := by decide +kernel
end Go.Proofs.YthlmmfljeblflaaGreatDoor

/-! lines: the document's example, written: a node. -/
namespace Go.Proofs.YthlmmfljeblflaaGreatDoor
set_option linter.unusedSimpArgs false
set_option linter.unusedVariables false
open Go.RowKit Ga
set_option maxRecDepth 100000

theorem str_at (W : World) (x : List UInt8) (y : ByteArray) (t : TypeId) (b : Nat) {c : Array Value} (hy : y = ⟨x.toArray⟩) (hc : c = #[.string y]) (hb : b = W.heap.size) : ∀ j u, (([x] : List (List UInt8)).flatMap encS)[j]? = some u → (W.alloc (.cells c t)).cell? ⟨b, j, none⟩ = some u := by
  subst hc hy
  intro j u hu
  rw [new_cells W _ t b hb j]
  simpa [encS] using hu
end Go.Proofs.YthlmmfljeblflaaGreatDoor

/-! audit.told at one number. -/
namespace Go.Proofs.YthlmmfljeblflaaGreatDoor
set_option linter.unusedSimpArgs false
set_option linter.unusedVariables false
open Go.RowKit Ga
set_option maxRecDepth 100000

set_option maxHeartbeats 8000000 in
theorem aTold0 (v : Value) (w : World) (hP : Pow w) (hf : IntsAt w v [0]) : Calls Tryz.prog 34 #[v, .func (.func 16) #[] #[]] w (Gives (.string ⟨#[48]⟩) w) := by
  have HI := Lib.hid fun W (q : Grew w W) => itoa_any 0 (by decide) W (hP.grew q)
  rw [itoa_0] at HI
  obtain ⟨a, cap, rfl, -, hx⟩ := ints_open hf
  obtain ⟨b, off, rfl, hb, c0⟩ := hx 0 (by decide)
  simp at c0
  have HC0 := Lib.hid c0
  clear hP hf hx c0 hb
  show Calls Tryz.prog _ #[.slice (some ⟨b, off, none⟩) 1 cap, .func (.func 16) #[] #[]] w _
  go_enter Tryz.func34, Tryz.ntmps34
  go_wp2
  go_loopg [5, 10] 1 (fun gg s5 s10 wr => ∃ k : Nat, k ≤ 1 ∧ 1 - k ≤ gg ∧ s10 = .int .i64 k ∧ Hid (Grew w wr) ∧ Hid (OwnAt w.heap.size 9 1 encS wr s5 (List.replicate k [48])))
  case atStart => exact ⟨0, by omega, by omega, rfl, Lib.hid (Grew.refl _), Lib.hid (OwnAt.nil _)⟩
  case round =>
    obtain ⟨k, hk, hgg, rfl, HG, HO⟩ := hrel
    rename World => wa
    by_cases hlt : k < 1
    · obtain rfl : k = 0 := by omega
      have c0 := cell_grew HC0.out HG.out
      have p0 := Pre.ofCell c0
      go_wp2_with (first
        | (go_at_call 16; refine (HI.out _ (HG.out.trans (by repeat (first | with_reducible exact Grew.refl _ | apply Grew.more | apply Grew.alloc | apply Grew.drew | apply Grew.drewN)))).mono ?_; rintro e w1 ⟨rfl, R1, n1, rfl⟩)
        | (at_builtin; go_loud (refine wpList_ownK (w0 := w) rfl (.tmp 14) (.tmp 18) 42 _ _ _ _ [[48]] rfl Tryz.underlying42 infoStr rfl (by decide) encS_len encS_one rfl (OwnAt.grew HO.out (by repeat (first | with_reducible exact Grew.refl _ | apply Grew.more | apply Grew.alloc | apply Grew.drew | apply Grew.drewN))) (HG.out.trans (by repeat (first | with_reducible exact Grew.refl _ | apply Grew.more | apply Grew.alloc | apply Grew.drew | apply Grew.drewN))) rfl (str_at _ _ _ _ _ rfl rfl (by simp [go_sem])) (by simp) (by decide) (by simp) ?_); intro v7 W7 hA; (have HA7 := Lib.hid hA); clear hA))
      go_roundg 0
      case measure => omega
      case rel => exact ⟨1, by omega, by omega, by go_num, Lib.hid HA7.out.1, Lib.hid HA7.out.2.1⟩
    · obtain rfl : k = 1 := by omega
      obtain ⟨av, cv, hav⟩ := (OwnAt.rows HO.out encS_len).len
      have hav' : _ = Value.slice av 1 cv := hav
      subst hav'
      go_wp2_with (go_at_call 29; refine (join_any _ [[48]] [44] _ _ (HO.out.grew (by repeat (first | with_reducible exact Grew.refl _ | apply Grew.more | apply Grew.alloc | apply Grew.drew | apply Grew.drewN))) (by decide) (by decide)).mono ?_; rintro e w1 ⟨rfl, R3, n3, rfl⟩)
      go_ret
      exact ⟨rfl, HG.out.trans (by repeat (first | with_reducible exact Grew.refl _ | apply Grew.more | apply Grew.alloc | apply Grew.drew | apply Grew.drewN))⟩
end Go.Proofs.YthlmmfljeblflaaGreatDoor

/-! pack.exact. -/
namespace Go.Proofs.YthlmmfljeblflaaGreatDoor
set_option linter.unusedSimpArgs false
set_option linter.unusedVariables false
open Go.RowKit Ga
set_option maxRecDepth 100000

end Go.Proofs.YthlmmfljeblflaaGreatDoor

/-! pack.GetPlan: what it reads, step by step; steps in memory of the call's own. -/
namespace Go.Proofs.YthlmmfljeblflaaGreatDoor
set_option linter.unusedSimpArgs false
set_option linter.unusedVariables false
open Go.RowKit Ga
set_option maxRecDepth 100000

abbrev StepsOwn (base : Nat) (w : World) (v : Value) (lc : List StC) : Prop := OwnAt base 60 15 encSt w v lc
def StepsIn (base : Nat) (w : World) (lc : List StC) (l : List Gr.Stp) : Prop := Rel (fun c s => StepIs w c s ∧ OwnsNd base w c.c s.nd) lc l
theorem StepIs.of {w w' : World} {base : Nat} {c : StC} {s : Gr.Stp} (h : StepIs w c s) (o : OwnsNd base w' c.c s.nd) : StepIs w' c s := ⟨h.kind, o.is h.nd, h.reset⟩
theorem StepsIn.at {base : Nat} {w : World} {v : Value} {lc : List StC} {l : List Gr.Stp} (h : StepsIn base w lc l) (ho : StepsOwn base w v lc) : StepsAt w v l :=
  ⟨lc, OwnAt.rows ho encSt_len, Rel.len h, fun i c s h1 h2 => (Rel.get h i c s h1 h2).1⟩
theorem StepsIn.map {base : Nat} {w w' : World} {lc : List StC} {l : List Gr.Stp} (h : StepsIn base w lc l) (hk : ∀ c n, OwnsNd base w c n → OwnsNd base w' c n) : StepsIn base w' lc l :=
  Rel.mono (fun c s ⟨h1, h2⟩ => ⟨h1.of (hk _ _ h2), hk _ _ h2⟩) h
theorem StepsIn.grew {base : Nat} {w w' : World} {lc : List StC} {l : List Gr.Stp} (h : StepsIn base w lc l) (g : Grew w w') : StepsIn base w' lc l := h.map fun _ _ o => o.grew g
/-- all but one block is as it was -/
def But (T : Nat) (w w' : World) : Prop := ∀ q, q ≠ T → w'.heap[q]? = w.heap[q]?
theorem OwnAt.but {α : Type} {base T : Nat} {e t : TypeId} {k : Nat} {enc : α → List Value} {w w' : World} {v : Value} {l : List α} {c : Array Value} {f : Nat × Nat} (h : OwnAt base e k enc w v l) (hb : But T w w') (hT : w.heap[T]? = some (.cells c t f)) (ht : t ≠ e) : OwnAt base e k enc w' v l :=
  OwnAt.same h fun b hv => hb b fun q => by
    subst q
    exact own_ne h hT ht hv
theorem OwnsNd.but {base T : Nat} {t : TypeId} {w w' : World} {c : NdC} {n : Gr.Nd} {cs : Array Value} {f : Nat × Nat} (o : OwnsNd base w c n) (hb : But T w w') (hT : w.heap[T]? = some (.cells cs t f)) (h1 : t ≠ 3 := by decide) (h2 : t ≠ 83 := by decide) : OwnsNd base w' c n := ⟨OwnAt.but o.1 hb hT h1, OwnAt.but o.2 hb hT h2⟩
end Go.Proofs.YthlmmfljeblflaaGreatDoor

/-! pack.GetPlan: its steps lie in memory of its own. -/
namespace Go.Proofs.YthlmmfljeblflaaGreatDoor
set_option linter.unusedSimpArgs false
set_option linter.unusedVariables false
open Go.RowKit Ga
set_option maxRecDepth 100000

def IsSt (z : Gr.Stp) (v : Value) (w : World) : Prop := ∃ d : StC, v = .agg #[.int .i64 d.kind, .int .i64 d.c.id, .int .i64 d.c.kind, .slice d.c.af d.c.nf d.c.cf, .slice d.c.ap d.c.np d.c.cp, .int .i64 d.c.par, .int .i64 d.c.r0, .int .i64 d.c.r1, .int .i64 d.c.r2, .int .i64 d.c.r3, .int .i64 d.c.r4, .int .i64 d.c.r5, .int .i64 d.c.r6, .int .i64 d.c.r7, .bool d.reset] ∧ StepIs w d z
theorem IsSt.st (z : Gr.Stp) : ∀ v w w', IsSt z v w → Grew w w' → IsSt z v w' := fun _ _ _ ⟨d, h1, h2⟩ g => ⟨d, h1, h2.grew g⟩
end Go.Proofs.YthlmmfljeblflaaGreatDoor

/-! pack.same. -/
namespace Go.Proofs.YthlmmfljeblflaaGreatDoor
set_option linter.unusedSimpArgs false
set_option linter.unusedVariables false
open Go.RowKit Ga
set_option maxRecDepth 100000

def IsOwn (base : Nat) (z : Gr.Stp) (v : Value) (w : World) : Prop := ∃ d : StC, v = .agg #[.int .i64 d.kind, .int .i64 d.c.id, .int .i64 d.c.kind, .slice d.c.af d.c.nf d.c.cf, .slice d.c.ap d.c.np d.c.cp, .int .i64 d.c.par, .int .i64 d.c.r0, .int .i64 d.c.r1, .int .i64 d.c.r2, .int .i64 d.c.r3, .int .i64 d.c.r4, .int .i64 d.c.r5, .int .i64 d.c.r6, .int .i64 d.c.r7, .bool d.reset] ∧ StepIs w d z ∧ OwnsNd base w d.c z.nd
theorem IsOwn.st (base : Nat) (z : Gr.Stp) : ∀ v w w', IsOwn base z v w → Grew w w' → IsOwn base z v w' := fun _ _ _ ⟨d, h1, h2, h3⟩ g => ⟨d, h1, h2.grew g, h3.grew g⟩
end Go.Proofs.YthlmmfljeblflaaGreatDoor

/-! slices.EqualFunc at steps: with pack.same, with pack.exact; pack.kept. -/
namespace Go.Proofs.YthlmmfljeblflaaGreatDoor
set_option linter.unusedSimpArgs false
set_option linter.unusedVariables false
open Go.RowKit Ga
set_option maxRecDepth 100000

def UptoBy (R : Gr.Stp → Gr.Stp → Bool) (l m : List Gr.Stp) (g : Nat) : Prop := ∀ (i : Nat) (h : i < l.length) (h2 : i < m.length), i < g → R l[i] m[i] = true
theorem UptoBy.succ {R : Gr.Stp → Gr.Stp → Bool} {l m : List Gr.Stp} {g : Nat} (h : UptoBy R l m g) (h1 : g < l.length) (h2 : g < m.length) (h3 : R l[g] m[g] = true) : UptoBy R l m (g + 1) := fun i hi hi2 hg => by
  rcases Nat.lt_or_ge i g with h4 | h4
  · exact h i hi hi2 h4
  · obtain rfl : i = g := by omega
    exact h3
end Go.Proofs.YthlmmfljeblflaaGreatDoor

/-! pack.Plan: the bytes, or none. -/
namespace Go.Proofs.YthlmmfljeblflaaGreatDoor
set_option linter.unusedSimpArgs false
set_option linter.unusedVariables false
open Go.RowKit Ga
set_option maxRecDepth 100000

end Go.Proofs.YthlmmfljeblflaaGreatDoor

/-! forebaylaw13.PackPlans. -/
namespace Go.Proofs.YthlmmfljeblflaaGreatDoor
set_option linter.unusedSimpArgs false
set_option linter.unusedVariables false
open Go.RowKit Ga
set_option maxRecDepth 100000

theorem putPl_len {p : List Gr.Stp} (h : Gr.OkPl fitsP p) : (Gr.putPl putI p).length ≤ 10000 := by
  obtain ⟨h1, h6, hs⟩ := h
  have hf : ∀ l : List Gr.Stp, (∀ s ∈ l, Gr.OkS fitsP s) → (l.flatMap (Gr.putSt putI)).length ≤ l.length * 400 := by
    intro l
    induction l with
    | nil => intro _; simp
    | cons x l ih =>
      intro h
      have h1 := ih fun s hs => h s (List.mem_cons_of_mem _ hs)
      have h2 := putNd_len (h x (List.mem_cons_self ..)).2
      rw [List.flatMap_cons, List.length_append, List.length_cons]
      unfold Gr.putSt at *
      simp only [List.length_append, Oc.be_len] at *
      omega
  have := hf p hs
  unfold Gr.putPl
  rw [List.length_append, Oc.be_len]
  omega

end Go.Proofs.YthlmmfljeblflaaGreatDoor

/-! forebaylaw13.PackTexts. -/
namespace Go.Proofs.YthlmmfljeblflaaGreatDoor
set_option linter.unusedSimpArgs false
set_option linter.unusedVariables false
open Go.RowKit Ga
set_option maxRecDepth 100000

end Go.Proofs.YthlmmfljeblflaaGreatDoor

/-! pack.num, Line, planned; the functions that Right hands on. -/
namespace Go.Proofs.YthlmmfljeblflaaGreatDoor
set_option linter.unusedSimpArgs false
set_option linter.unusedVariables false
open Go.RowKit Ga
set_option maxRecDepth 100000

end Go.Proofs.YthlmmfljeblflaaGreatDoor

/-! pack.Right, by cases. -/
namespace Go.Proofs.YthlmmfljeblflaaGreatDoor
set_option linter.unusedSimpArgs false
set_option linter.unusedVariables false
open Go.RowKit Ga
set_option maxRecDepth 100000

open Classical in
def parOf (g : List Gr.Nd) : Int := match Gr.nodeOf g 0 with
  | none => 0
  | some n => n.par
theorem source_some {l : List Gr.Nd} (h : Gr.RightR l) : ∃ n, Gr.nodeOf l 0 = some n := by
  have hz : (0 : Int) ∈ Gr.ids l := ((Gr.right_iff (List.Perm.refl l)).1 h).z
  obtain ⟨n, hn, e⟩ := List.mem_map.1 hz
  have := Gr.bind_find h.ids hn
  rw [e] at this
  exact ⟨n, this⟩
end Go.Proofs.YthlmmfljeblflaaGreatDoor

/-! pack.Right: it is the document's. -/
namespace Go.Proofs.YthlmmfljeblflaaGreatDoor
set_option linter.unusedSimpArgs false
set_option linter.unusedVariables false
open Go.RowKit Ga
set_option maxRecDepth 100000

end Go.Proofs.YthlmmfljeblflaaGreatDoor
