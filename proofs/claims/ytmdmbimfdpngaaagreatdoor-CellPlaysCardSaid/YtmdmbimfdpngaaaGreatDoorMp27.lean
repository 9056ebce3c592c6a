import Derived.Test.YtmdmbimfdpngaaaGreatDoorMp10
import Derived.Test.YtmdmbimfdpngaaaGreatDoorMp26
import Derived.Test.YtmdmbimfdpngaaaGreatDoorMp17
import Derived.Deep.RegionWith
/-! vm.Each and vm.Run. -/
namespace Go.Proofs.YtmdmbimfdpngaaaGreatDoor
set_option linter.unusedSimpArgs false
set_option linter.unusedVariables false
open Go.RowKit Ga
set_option maxRecDepth 100000

/-- A Result, as its fields. -/
def resV (vo : Value) (r : Vm.Res) : Value := .agg #[vo, .int .i64 r.c0.1, .int .i64 r.c0.2, .int .i64 r.c1.1, .int .i64 r.c1.2, .int .i64 r.steps]
def zeroR : Value := .agg #[.slice none 0 0, .int .i64 0, .int .i64 0, .int .i64 0, .int .i64 0, .int .i64 0]
def start0 (c0 c1 : Val) : Vm.Res := ⟨[], c0, c1, 0⟩
/-- What Each gives. -/
def EachGives (l : List Val) (c0 c1 : Val) (ins : List Val) (w : World) (e : Ending) (w' : World) : Prop :=
  Grew w w' ∧ (if Vm.safe l = false then e = .returned (.tuple #[zeroR, .int .i64 9]) else if ([c0, c1].all rightV && ins.all rightV) = false then e = .returned (.tuple #[zeroR, .int .i64 1])
    else ∃ vo, e = .returned (.tuple #[resV vo (Vm.each l (start0 c0 c1) ins), .int .i64 0]) ∧ OwnAt w.heap.size 47 2 encI w' vo (Vm.each l (start0 c0 c1) ins).out)
theorem valsCells (W : World) (a b c d : Int) (bk : Nat) (h0 : W.cell? ⟨bk, 0, none⟩ = some (.int .i64 a)) (h1 : W.cell? ⟨bk, 1, none⟩ = some (.int .i64 b)) (h2 : W.cell? ⟨bk, 2, none⟩ = some (.int .i64 c)) (h3 : W.cell? ⟨bk, 3, none⟩ = some (.int .i64 d)) : ValsAt W (.slice (some ⟨bk, 0, none⟩) 2 2) [(a, b), (c, d)] := by
  refine ⟨_, _, rfl, by simp [maxLen], fun _ => ⟨bk, 0, rfl, fun i x hi j u hu => ?_⟩⟩
  match i, hi with
  | 0, hi => cases hi; match j, hu with
    | 0, hu => cases hu; exact h0
    | 1, hu => cases hu; exact h1
    | j + 2, hu => simp at hu
  | 1, hi => cases hi; match j, hu with
    | 0, hu => cases hu; exact h2
    | 1, hu => cases hu; exact h3
    | j + 2, hu => simp at hu
  | i + 2, hi => simp at hi

/-- Between two inputs. -/
structure EachAt (w : World) (b8 b6 : Nat) (wr : World) (vo : Value) (r : Vm.Res) : Prop where
  g : Grew w wr
  c8 : wr.heap[b8]? = some (.cells #[vo, .int .i64 r.c0.1, .int .i64 r.c0.2, .int .i64 r.c1.1, .int .i64 r.c1.2, .int .i64 r.steps] 110)
  o : OwnAt w.heap.size 47 2 encI wr vo r.out
  c6 : wr.heap[b6]? = some (.cells #[.slice none 0 0, .int .i64 0, .int .i64 0, .int .i64 0, .int .i64 0, .int .i64 0] 110)
theorem EachAt.grew {w wr w' : World} {b8 b6 : Nat} {vo : Value} {r : Vm.Res} (h : EachAt w b8 b6 wr vo r) (g : Grew wr w') : EachAt w b8 b6 w' vo r :=
  ⟨h.g.trans g, grew_heap g h.c8, h.o.grew g, grew_heap g h.c6⟩
theorem own_slice {base : Nat} {wr : World} {v : Value} {l : List Val} (h : OwnAt base 47 2 encI wr v l) : ∃ a n c, v = .slice a n c := by
  rcases h.form with ⟨h, _⟩ | ⟨b, cap, h, _⟩
  · exact ⟨_, _, _, h⟩
  · exact ⟨_, _, _, h⟩
theorem mach_new {w W : World} {B : Nat} {ao : Option Addr} {no co : Nat} {vp : Value} {p q : Int} {r : Vm.Res} (hB : B = W.heap.size) (hg : Grew w W) (ho : OwnAt w.heap.size 47 2 encI W (.slice ao no co) r.out) :
    Mach w.heap.size B vp (p, q) (W.alloc (.cells #[.slice ao no co, .int .i64 r.c0.1, .int .i64 r.c0.2, .int .i64 r.c1.1, .int .i64 r.c1.2, .int .i64 r.steps, vp, .int .i64 p, .int .i64 q, .int .i64 0, .slice none 0 0] 194)) (Vm.stOf r) := by
  subst hB
  exact ⟨_, .slice none 0 0, hg.below.size, heap_new_at _ _ _ rfl, ho.grew ((Grew.refl W).alloc _), OwnAt.nil _, fun _ _ e => by cases e⟩
theorem at_start {l : List Val} {cc : Vm.Cst} (hc : Vm.checkC l = some cc) (inp : Val) (r : Vm.Res) : Vm.At l cc inp (Vm.stOf r) (Vm.stOf r) :=
  ⟨rfl, fun h => by have h2 : 0 < l.length := h; exact Vm.checkC_zero hc h2, Nat.le_add_right _ _, Int.le_refl _, by show r.steps ≤ r.steps + ((0 : Nat) : Int); omega, Nat.zero_le _⟩
/-- What run leaves, stored back. -/
theorem EachAt.back {w wr w9 : World} {b8 b6 B : Nat} {vo vo9 vs9 vp : Value} {inp : Val} {r : Vm.Res} {s : Vm.St} (h : EachAt w b8 b6 wr vo r) (hB : wr.heap.size ≤ B) (h6 : w.heap.size ≤ b8) (hne : b8 ≠ b6) (hg : Grew w w9) (hm : MachAt w.heap.size B vp inp w9 vo9 vs9 s) (c8 : w9.heap[b8]? = some (.cells #[vo, .int .i64 r.c0.1, .int .i64 r.c0.2, .int .i64 r.c1.1, .int .i64 r.c1.2, .int .i64 r.steps] 110)) (c6 : w9.heap[b6]? = some (.cells #[.slice none 0 0, .int .i64 0, .int .i64 0, .int .i64 0, .int .i64 0, .int .i64 0] 110)) :
    EachAt w b8 b6 ((((((w9.setCell ⟨b8, 0, none⟩ vo9).setCell ⟨b8, 1, none⟩ (.int .i64 s.c0.1)).setCell ⟨b8, 2, none⟩ (.int .i64 s.c0.2)).setCell ⟨b8, 3, none⟩ (.int .i64 s.c1.1)).setCell ⟨b8, 4, none⟩ (.int .i64 s.c1.2)).setCell ⟨b8, 5, none⟩ (.int .i64 s.steps)) vo9 (Vm.resOf s) := by
  refine ⟨(((((hg.set h6 _).set h6 _).set h6 _).set h6 _).set h6 _).set h6 _, ?_, ?_, ?_⟩
  · rw [set_self (set_self (set_self (set_self (set_self (set_self c8)))))]; rfl
  · refine hm.ho.same fun q hq => ?_
    have : b8 ≠ q := fun e => hm.ho.other c8 (by decide) (e ▸ hq)
    rw [set_other this, set_other this, set_other this, set_other this, set_other this, set_other this]
  · rw [set_other hne, set_other hne, set_other hne, set_other hne, set_other hne, set_other hne]; exact c6
theorem valsHeap {W : World} {a b c d : Int} {bk : Nat} {t : TypeId} (h : W.heap[bk]? = some (.cells #[.int .i64 a, .int .i64 b, .int .i64 c, .int .i64 d] t)) : ValsAt W (.slice (some ⟨bk, 0, none⟩) 2 2) [(a, b), (c, d)] :=
  valsCells W a b c d bk (cell_of h) (cell_of h) (cell_of h) (cell_of h)

set_option maxHeartbeats 8000000 in
theorem each_any (v vi : Value) (l ins : List Val) (x0 y0 x1 y1 : Int) (w : World) (hv : ValsAt w v l) (hi : ValsAt w vi ins) (hn : ins.length ≤ 1000) :
    Calls Tryz.prog 78 #[v, .agg #[.int .i64 x0, .int .i64 y0, .int .i64 x1, .int .i64 y1], vi] w (EachGives l (x0, y0) (x1, y1) ins w) := by
  obtain ⟨a, cap, rfl, hm, -⟩ := hv.open2
  obtain ⟨ai, ci, rfl, hmi, hli⟩ := hi.open2
  have HV := Lib.hid hv
  have HI := Lib.hid hi
  have HLI := Lib.hid hli
  clear hv hi hli
  obtain ⟨G, hG⟩ : ∃ G, G = EachGives l (x0, y0) (x1, y1) ins w := ⟨_, rfl⟩
  rw [← hG]
  have hv4 : ∀ W', Grew (w.alloc (.cells #[.int .i64 x0, .int .i64 y0, .int .i64 x1, .int .i64 y1] 48)) W' → ValsAt W' (.slice (some ⟨w.heap.size, 0, none⟩) 2 2) [(x0, y0), (x1, y1)] := fun W' g => valsHeap (grew_heap g (heap_new_at w _ _ rfl))
  have HV4 := Lib.hid hv4
  clear hv4
  have HGV := Lib.hid hG
  clear hG
  cases hs : Vm.safe l
  · have HS := Lib.hid hs
    clear hs
    go_enter Tryz.func78, Tryz.ntmps78
    go_wp2_with (go_at_call 123; refine (safe_any _ l _ (HV.out.grew (by repeat (first | with_reducible exact Grew.refl _ | apply Grew.more | apply Grew.alloc | apply Grew.drew | apply Grew.drewN)))).mono ?_; rintro e w1 ⟨rfl, R3, n3, rfl⟩; rw [HS.out])
    refine bodyPost_ret (v := .tuple #[zeroR, .int .i64 9]) (by simp [results, zeroR, Tryz.results78, go_sem]) rfl ?_
    rw [HGV.out]
    exact ⟨by repeat (first | with_reducible exact Grew.refl _ | apply Grew.more | apply Grew.alloc | apply Grew.drew | apply Grew.drewN), by rw [if_pos HS.out]⟩
  · have HS := Lib.hid hs
    clear hs
    cases hb1 : [((x0, y0) : Val), (x1, y1)].all rightV
    · have HB1 := Lib.hid hb1
      clear hb1
      go_enter Tryz.func78, Tryz.ntmps78
      go_wp2_with (first
        | (go_at_call 123; refine (safe_any _ l _ (HV.out.grew (by repeat (first | with_reducible exact Grew.refl _ | apply Grew.more | apply Grew.alloc | apply Grew.drew | apply Grew.drewN)))).mono ?_; rintro e w1 ⟨rfl, R3, n3, rfl⟩; rw [HS.out])
        | (go_at_call_of 124 (Value.slice ai ins.length ci); refine (containsWrongV_any _ ins _ (HI.out.grew (by repeat (first | with_reducible exact Grew.refl _ | apply Grew.more | apply Grew.alloc | apply Grew.drew | apply Grew.drewN)))).mono ?_; rintro e w1 ⟨rfl, R5, n5, rfl⟩; rw [HB2.out])
        | (go_at_call 124; refine (containsWrongV_any _ [(x0, y0), (x1, y1)] _ (HV4.out _ (by repeat (first | with_reducible exact Grew.refl _ | apply Grew.more | apply Grew.alloc | apply Grew.drew | apply Grew.drewN)))).mono ?_; rintro e w1 ⟨rfl, R4, n4, rfl⟩; rw [HB1.out])
        )
      refine bodyPost_ret (v := .tuple #[zeroR, .int .i64 1]) (by simp [results, zeroR, Tryz.results78, go_sem]) rfl ?_
      rw [HGV.out]
      exact ⟨by repeat (first | with_reducible exact Grew.refl _ | apply Grew.more | apply Grew.alloc | apply Grew.drew | apply Grew.drewN), by rw [if_neg (by rw [HS.out]; decide), if_pos (by rw [HB1.out]; rfl)]⟩
    cases hb2 : ins.all rightV
    · have HB1 := Lib.hid hb1
      have HB2 := Lib.hid hb2
      clear hb1 hb2
      go_enter Tryz.func78, Tryz.ntmps78
      go_wp2_with (first
        | (go_at_call 123; refine (safe_any _ l _ (HV.out.grew (by repeat (first | with_reducible exact Grew.refl _ | apply Grew.more | apply Grew.alloc | apply Grew.drew | apply Grew.drewN)))).mono ?_; rintro e w1 ⟨rfl, R3, n3, rfl⟩; rw [HS.out])
        | (go_at_call_of 124 (Value.slice ai ins.length ci); refine (containsWrongV_any _ ins _ (HI.out.grew (by repeat (first | with_reducible exact Grew.refl _ | apply Grew.more | apply Grew.alloc | apply Grew.drew | apply Grew.drewN)))).mono ?_; rintro e w1 ⟨rfl, R5, n5, rfl⟩; rw [HB2.out])
        | (go_at_call 124; refine (containsWrongV_any _ [(x0, y0), (x1, y1)] _ (HV4.out _ (by repeat (first | with_reducible exact Grew.refl _ | apply Grew.more | apply Grew.alloc | apply Grew.drew | apply Grew.drewN)))).mono ?_; rintro e w1 ⟨rfl, R4, n4, rfl⟩; rw [HB1.out])
        )
      refine bodyPost_ret (v := .tuple #[zeroR, .int .i64 1]) (by simp [results, zeroR, Tryz.results78, go_sem]) rfl ?_
      rw [HGV.out]
      exact ⟨by repeat (first | with_reducible exact Grew.refl _ | apply Grew.more | apply Grew.alloc | apply Grew.drew | apply Grew.drewN), by rw [if_neg (by rw [HS.out]; decide), if_pos (by rw [HB1.out, HB2.out]; rfl)]⟩
    · have HB1 := Lib.hid hb1
      have HB2 := Lib.hid hb2
      obtain ⟨cc, hcc⟩ : ∃ cc, Vm.checkC l = some cc := by
        have := HS.out
        unfold Vm.safe at this
        exact Option.isSome_iff_exists.1 this
      have HC := Lib.hid hcc
      have h24 := (Co.fits_parts (Vm.checkC_fits hcc)).1
      clear hb1 hb2 hcc
      go_enter Tryz.func78, Tryz.ntmps78
      go_wp2_with (first
        | (go_at_call 123; refine (safe_any _ l _ (HV.out.grew (by repeat (first | with_reducible exact Grew.refl _ | apply Grew.more | apply Grew.alloc | apply Grew.drew | apply Grew.drewN)))).mono ?_; rintro e w1 ⟨rfl, R3, n3, rfl⟩; rw [HS.out])
        | (go_at_call_of 124 (Value.slice ai ins.length ci); refine (containsWrongV_any _ ins _ (HI.out.grew (by repeat (first | with_reducible exact Grew.refl _ | apply Grew.more | apply Grew.alloc | apply Grew.drew | apply Grew.drewN)))).mono ?_; rintro e w1 ⟨rfl, R5, n5, rfl⟩; rw [HB2.out])
        | (go_at_call 124; refine (containsWrongV_any _ [(x0, y0), (x1, y1)] _ (HV4.out _ (by repeat (first | with_reducible exact Grew.refl _ | apply Grew.more | apply Grew.alloc | apply Grew.drew | apply Grew.drewN)))).mono ?_; rintro e w1 ⟨rfl, R4, n4, rfl⟩; rw [HB1.out])
        )
      obtain ⟨b8, hb8⟩ : ∃ b8, b8 = w.heap.size + 1 + 1 + R3.size + R4.size + R5.size := ⟨_, rfl⟩
      rw [← hb8]
      have hr0 : ∀ k, k ≤ ins.length → (Vm.each l (start0 (x0, y0) (x1, y1)) (ins.take k)).out.length ≤ 25 * k ∧ 0 ≤ (Vm.each l (start0 (x0, y0) (x1, y1)) (ins.take k)).steps ∧ (Vm.each l (start0 (x0, y0) (x1, y1)) (ins.take k)).steps ≤ 25 * k := by
        intro k hk
        have h1 := Vm.each_bounds h24 (ins.take k) (start0 (x0, y0) (x1, y1))
        rw [List.length_take_of_le hk] at h1
        have e1 : (start0 (x0, y0) (x1, y1)).steps = 0 := rfl
        have e2 : (start0 (x0, y0) (x1, y1)).out.length = 0 := rfl
        omega
      have hsucc := Vm.each_succ l (start0 (x0, y0) (x1, y1)) ins
      have HR0 := Lib.hid hr0
      have HSUCC := Lib.hid hsucc
      have HB8 := Lib.hid hb8
      clear hr0 hsucc hb8
      go_loopw [29] (fun i wr => ∃ (k : Nat) (vo : Value), k ≤ ins.length ∧ i = .int .i64 k ∧ EachAt w b8 (w.heap.size + 1) wr vo (Vm.each l (start0 (x0, y0) (x1, y1)) (ins.take k))) (fun i _ => ins.length - (intOf i).toNat)
      case atStart =>
        refine ⟨0, .slice none 0 0, Nat.zero_le _, rfl, by repeat (first | with_reducible exact Grew.refl _ | apply Grew.more | apply Grew.alloc | apply Grew.drew | apply Grew.drewN), ?_, OwnAt.nil _, ?_⟩
        · exact heap_new_at _ _ _ (by have := HB8.out; simp [World.size_alloc, World.more_size]; omega)
        · exact heap_alloc' (grew_heap (by repeat (first | with_reducible exact Grew.refl _ | apply Grew.more | apply Grew.alloc | apply Grew.drew | apply Grew.drewN)) (heap_new_at (w.alloc (.cells #[.int .i64 x0, .int .i64 y0, .int .i64 x1, .int .i64 y1] 48)) _ _ (by rw [World.size_alloc]))) _
      case round =>
        obtain ⟨k, vo, hk, rfl, hea⟩ := hrel
        obtain ⟨q1, q2, q3⟩ := HR0.out k hk
        by_cases hlt : k < ins.length
        · have hsc := HSUCC.out k hlt
          obtain ⟨ak, ck, ek, _, hxk⟩ := (HI.out.grew hea.g).open2
          cases ek
          obtain ⟨bi, offi, rfl, hbi, hi0, hi1⟩ := hxk k hlt
          clear hxk
          generalize Vm.each l (start0 (x0, y0) (x1, y1)) (ins.take k) = r at *
          generalize ins[k] = pq at *
          obtain ⟨p, q⟩ := pq
          simp only at hi0 hi1
          obtain ⟨ao, no, co, rfl⟩ := own_slice hea.o
          have hc := fun o => cell_of (o := o) hea.c8
          have hc0 := hc 0
          have hc1 := hc 1
          have hc2 := hc 2
          have hc3 := hc 3
          have hc4 := hc 4
          have hc5 := hc 5
          simp at hc0 hc1 hc2 hc3 hc4 hc5
          have hp8 := Pre.mk (heap_lt hea.c8)
          have hsz8 := heap_lt hea.c8
          have hsz6 := heap_lt hea.c6
          have HEA := Lib.hid hea
          have HSC := Lib.hid hsc
          clear hc hea hsc
          have hrun := run_any w ((wr.alloc (.cells #[.int .i64 p, .int .i64 q] 47)).alloc (.cells #[.slice ao no co, .int .i64 r.c0.1, .int .i64 r.c0.2, .int .i64 r.c1.1, .int .i64 r.c1.2, .int .i64 r.steps, .slice a l.length cap, .int .i64 p, .int .i64 q, .int .i64 0, .slice none 0 0] 194)) (wr.heap.size + 1) (.slice a l.length cap) (p, q) l cc (Vm.stOf r)
            (mach_new (by rw [World.size_alloc]) (HEA.out.g.alloc _) (HEA.out.o.grew ((Grew.refl wr).alloc _))) ((HEA.out.g.alloc _).alloc _) HV.out HC.out (at_start HC.out _ _) (show r.out.length ≤ 90000 by omega) ⟨q2, show r.steps ≤ 1000000 by omega⟩
          have HRUN := Lib.hid hrun
          clear hrun
          go_wp2_with (go_at_call 126; refine HRUN.out.mono ?_; rintro e w9 hd9; obtain ⟨rfl, hd9⟩ : e = .returned (.tuple #[]) ∧ Did w (wr.heap.size + 1) (.slice a l.length cap) (p, q) _ _ (.returned (.tuple #[])) w9 := ⟨hd9.1, rfl, hd9.2⟩; obtain ⟨vo9, vs9, hm9⟩ := hd9.2.2.1; obtain ⟨ao9, no9, co9, rfl⟩ := own_slice hm9.ho; (have h89 := hd9.2.2.2 b8 _ _ (grew_heap (((Grew.refl wr).alloc _).alloc _) HEA.out.c8) (by decide) (by omega)); (have h69 := hd9.2.2.2 (w.heap.size + 1) _ _ (grew_heap (((Grew.refl wr).alloc _).alloc _) HEA.out.c6) (by decide) (by omega)); (have hc9 := fun o => cell_of (o := o) hm9.cB); (have hc90 := hc9 0); (have hc91 := hc9 1); (have hc92 := hc9 2); (have hc93 := hc9 3); (have hc94 := hc9 4); (have hc95 := hc9 5); simp at hc90 hc91 hc92 hc93 hc94 hc95; clear hc9; (have hf9 := fun o => frozen_of (o := o) h89); (have hf90 := hf9 0); (have hf91 := hf9 1); (have hf92 := hf9 2); (have hf93 := hf9 3); (have hf94 := hf9 4); (have hf95 := hf9 5); clear hf9; (have hk9 := fun o => cell_of (o := o) h89); (have hk90 := hk9 0); (have hk91 := hk9 1); (have hk92 := hk9 2); (have hk93 := hk9 3); (have hk94 := hk9 4); (have hk95 := hk9 5); simp at hk90 hk91 hk92 hk93 hk94 hk95; clear hk9; (have hp9 := Pre.mk (heap_lt h89)); (have hpm9 := Pre.mk (heap_lt hm9.cB)); (have HM9 := Lib.hid hm9); (have HD9 := Lib.hid hd9); (have H89 := Lib.hid h89); (have H69 := Lib.hid h69); clear hm9 hd9 h89 h69)
          go_roundw
          case rel =>
            refine ⟨k + 1, .slice ao9 no9 co9, by omega, by go_num, ?_⟩
            rw [HSC.out]
            exact HEA.out.back (by omega) (by have := HB8.out; omega) (by have := HB8.out; omega) HD9.out.2.1 HM9.out H89.out H69.out
          case measure => first | (simp [intOf]; done) | (simp [intOf]; omega)
        · obtain rfl : k = ins.length := by omega
          rw [List.take_length] at hea
          generalize hrr : Vm.each l (start0 (x0, y0) (x1, y1)) ins = r at *
          obtain ⟨ao, no, co, rfl⟩ := own_slice hea.o
          have hc := fun o => cell_of (o := o) hea.c8
          have hc0 := hc 0
          have hc1 := hc 1
          have hc2 := hc 2
          have hc3 := hc 3
          have hc4 := hc 4
          have hc5 := hc 5
          simp at hc0 hc1 hc2 hc3 hc4 hc5
          have hk := fun o => cell_of (o := o) hea.c6
          have hk0 := hk 0
          have hk1 := hk 1
          have hk2 := hk 2
          have hk3 := hk 3
          have hk4 := hk 4
          have hk5 := hk 5
          simp at hk0 hk1 hk2 hk3 hk4 hk5
          have hf := fun o => frozen_of (o := o) hea.c6
          have hf0 := hf 0
          have hf1 := hf 1
          have hf2 := hf 2
          have hf3 := hf 3
          have hf4 := hf 4
          have hf5 := hf 5
          have hp8 := Pre.mk (heap_lt hea.c8)
          have hp6 := Pre.mk (heap_lt hea.c6)
          have HEA := Lib.hid hea
          have HRR := Lib.hid hrr
          clear hc hk hf hea hrr
          go_wp2
          refine bodyPost_ret (v := .tuple #[resV (.slice ao no co) r, .int .i64 0]) (by simp [results, resV, Tryz.results78, go_sem, hk0, hk1, hk2, hk3, hk4, hk5]) rfl ?_
          rw [HGV.out]
          have hle : w.heap.size ≤ w.heap.size + 1 := Nat.le_succ _
          refine ⟨(((((HEA.out.g.set hle _).set hle _).set hle _).set hle _).set hle _).set hle _, ?_⟩
          rw [if_neg (by rw [HS.out]; decide), if_neg (by rw [HB1.out, HB2.out]; decide)]
          refine ⟨.slice ao no co, by rw [HRR.out], ?_⟩
          rw [HRR.out]
          refine OwnAt.same HEA.out.o fun q hq => ?_
          have : w.heap.size + 1 ≠ q := fun e => HEA.out.o.other HEA.out.c6 (by decide) (e ▸ hq)
          rw [set_other this, set_other this, set_other this, set_other this, set_other this, set_other this]

theorem EachGives.shape {l : List Val} {c0 c1 : Val} {ins : List Val} {w w' : World} {e : Ending} (h : EachGives l c0 c1 ins w e w') : ∃ ao no co, ∃ n1 n2 n3 n4 n5 err : Int, e = .returned (.tuple #[.agg #[.slice ao no co, .int .i64 n1, .int .i64 n2, .int .i64 n3, .int .i64 n4, .int .i64 n5], .int .i64 err]) := by
  obtain ⟨_, h⟩ := h
  split at h
  · exact ⟨_, _, _, _, _, _, _, _, _, h⟩
  · split at h
    · exact ⟨_, _, _, _, _, _, _, _, _, h⟩
    · obtain ⟨vo, he, ho⟩ := h
      obtain ⟨a, n, c, rfl⟩ := own_slice ho
      exact ⟨_, _, _, _, _, _, _, _, _, he⟩
theorem EachGives.move {l : List Val} {c0 c1 : Val} {ins : List Val} {w W w' w'' : World} {e : Ending} (h : EachGives l c0 c1 ins W e w') (g : Grew w w'') (hs : w.heap.size ≤ W.heap.size) (hb : ∀ q, W.heap.size ≤ q → w''.heap[q]? = w'.heap[q]?) : EachGives l c0 c1 ins w e w'' := by
  obtain ⟨_, h⟩ := h
  refine ⟨g, ?_⟩
  split
  · rw [if_pos (by assumption)] at h; exact h
  · rw [if_neg (by assumption)] at h
    split
    · rw [if_pos (by assumption)] at h; exact h
    · rw [if_neg (by assumption)] at h
      obtain ⟨vo, he, hv⟩ := h
      exact ⟨vo, he, (OwnAt.low hv hs).same fun q hq => hb q (OwnAt.lt hv q hq)⟩
theorem vals1 (W : World) (x y : Int) (t : TypeId) (b : Nat) (hb : b = W.heap.size) : ValsAt (W.alloc (.cells #[.int .i64 x, .int .i64 y] t)) (.slice (some ⟨b, 0, none⟩) 1 1) [(x, y)] := by
  refine RowsAt.fresh (l := [(x, y)]) (c := [.int .i64 x, .int .i64 y]) rfl (by simp [maxLen]) (fun _ => rfl) hb ?_
  simp

set_option maxHeartbeats 2000000 in
/-- Run: Each of one. -/
theorem run1_any (v : Value) (l : List Val) (p q x0 y0 x1 y1 : Int) (w : World) (hv : ValsAt w v l) :
    Calls Tryz.prog 47 #[v, .agg #[.int .i64 p, .int .i64 q], .agg #[.int .i64 x0, .int .i64 y0, .int .i64 x1, .int .i64 y1]] w (EachGives l (x0, y0) (x1, y1) [(p, q)] w) := by
  have HV := Lib.hid hv
  clear hv
  go_enter Tryz.func47, Tryz.ntmps47
  go_wp2_with (go_at_call 78; go_loud (refine (each_any v _ l [(p, q)] x0 y0 x1 y1 _ (HV.out.grew (by repeat (first | with_reducible exact Grew.refl _ | apply Grew.more | apply Grew.alloc | apply Grew.drew | apply Grew.drewN))) (vals1 _ _ _ _ _ (by simp [go_sem])) (by simp)).mono ?_); rintro e w1 hE; obtain ⟨ao, no, co, n1, n2, n3, n4, n5, err, rfl⟩ := hE.shape; (have HE := Lib.hid hE); obtain ⟨⟨R3, N3, hw⟩, _⟩ := hE; subst hw)
  refine bodyPost_ret (v := .tuple #[.agg #[.slice ao no co, .int .i64 n1, .int .i64 n2, .int .i64 n3, .int .i64 n4, .int .i64 n5], .int .i64 err]) (by simp [results, Tryz.results47, go_sem]) rfl ?_
  refine HE.out.move (by repeat (first | with_reducible exact Grew.refl _ | apply Grew.more | apply Grew.alloc | apply Grew.drew | apply Grew.drewN)) (by simp [World.size_alloc]; omega) fun q hq => ?_
  rw [heap_more_in _ _ _ _ hq, heap_more_in _ _ _ _ (by simpa [World.size_alloc] using hq)]
  simp [World.size_alloc]
end Go.Proofs.YtmdmbimfdpngaaaGreatDoor
