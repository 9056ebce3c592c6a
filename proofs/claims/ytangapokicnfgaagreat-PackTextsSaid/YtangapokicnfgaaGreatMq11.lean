import Derived.Test.YtangapokicnfgaaGreatMq6
import Derived.Test.YtangapokicnfgaaGreatMq3
import Derived.Test.YtangapokicnfgaaGreatMq8
import Derived.Test.YtangapokicnfgaaGreatShelf
import Derived.Test.YtangapokicnfgaaGreatMq9
import Derived.Deep.RegionLaw
import Derived.Deep.RegionHeld3
/-! octet.Writer and octet.Reader. -/
namespace Go.Proofs.YtangapokicnfgaaGreat
set_option linter.unusedSimpArgs false
set_option linter.unusedVariables false
open Go.RowKit
set_option maxRecDepth 100000

def encB (x : UInt8) : List Value := [.int .u8 x.toNat]
def encN (n : Int) : List Value := [.int .i64 n]
theorem infoU8 : (Tryz.prog.info? 5).map (fun i => (i.zero, i.size, i.bytes)) = some (some (.int .u8 0), 1, 1) := by kernel_rfl
theorem encB_len (x : UInt8) : (encB x).length = 1 := rfl
theorem encN_len (x : Int) : (encN x).length = 1 := rfl
theorem encB_one (x : UInt8) : ∀ u ∈ encB x, u.oneCell' = true := by intro u hu; simp [encB] at hu; subst hu; rfl

/-- The writer at block B: behind 'base'; its bytes. -/
def WriterAt (base B : Nat) (W : World) (vb : Value) (bs : List UInt8) : Prop :=
  base ≤ B ∧ W.heap[B]? = some (.cells #[vb] 67) ∧ OwnAt base 5 1 encB W vb bs

theorem octFits_any (n : Int) (w : World) : Calls Tryz.prog 93 #[.int .i64 n] w fun e w' => e = .returned (.bool (Oc.fitsN n)) ∧ w = w' := by
  go_enter Tryz.func93, Tryz.ntmps93
  go_wp2
  all_goals
    go_ret
    refine ⟨?_, rfl⟩
    exact congrArg (fun b => Ending.returned (Value.bool b)) (by unfold Oc.fitsN; grind)

theorem cell_of_heap {W : World} {b o : Nat} {c : Array Value} {t : TypeId} {f : Nat × Nat} (h : W.heap[b]? = some (.cells c t f)) : W.cell? ⟨b, o, none⟩ = c[o]? := by
  unfold World.cell?; rw [h]; simp
theorem frozen_of_heap {W : World} {b o : Nat} {c : Array Value} {t : TypeId} (h : W.heap[b]? = some (.cells c t)) : W.frozen? ⟨b, o, none⟩ = false := by
  unfold World.frozen?; rw [h]; simp

/-- append, with what else it leaves as it was. -/
theorem wpList_ownG {α : Type} {e : TypeId} {k : Nat} {enc : α → List Value} {w0 : World} {v : Value} {l : List α} {P : Program} {ops : Array Oper} {rest : List Oper} {o : Oper} {a : Act} {Q : Exit → Act → World → Prop} {W : World}
    (hgd : o.guard = none) (s x : Operand) (t : TypeId) (z : Value) (bytes c0 b : Nat) (l2 : List α)
    (ho : o.op = .call { callee := .builtin .append, args := #[s, x], argTypes := #[t, t] })
    (ht : P.underlying t = some (.slice e)) (hinfo : (P.info? e).map (fun i => (i.zero, i.size, i.bytes)) = some (some z, k, bytes)) (hz : z.cells.size = k) (hk : 0 < k)
    (henc : ∀ x, (enc x).length = k) (hone : ∀ x, ∀ u ∈ enc x, u.oneCell' = true)
    (hs : a.eval s = v) (hown : OwnAt w0.heap.size e k enc W v l) (hg : Grew w0 W)
    (hx : a.eval x = .slice (some ⟨b, 0, none⟩) l2.length c0) (hb : ∀ j u, (l2.flatMap enc)[j]? = some u → W.cell? ⟨b, j, none⟩ = some u)
    (hlen : l.length + l2.length ≤ 1000000) (hby : bytes ≤ 1000)
    (h : ∀ v' R N, OwnAt w0.heap.size e k enc (w0.more R N) v' (l ++ l2) → (∀ q, q < W.heap.size → v.ownBlock ≠ some q → (w0.more R N).heap[q]? = W.heap[q]?) → wpList P ops Q rest (a.put o.dst v') (w0.more R N)) : wpList P ops Q (o :: rest) a W := by
  obtain ⟨i, hi, hz0, hz1, hz2⟩ := info_parts hinfo
  have hmul : (l.length + l2.length) * bytes ≤ 1000000 * 1000 := Nat.mul_le_mul hlen hby
  refine wpList_append_own W hgd s x t ho w0.heap.size e i z k bytes ht hi hz0 hz1 hz2 hz hk v l.length (l.flatMap enc) hs hown ⟨b, 0, none⟩ l2.length c0 (l2.flatMap enc) hx (flat_length henc l2) ?_ ?_ (by unfold maxLen; omega) (by omega) hg.below.size ?_
  · intro j u hj
    rw [addr_add_zero]; exact hb j u hj
  · intro u hu
    obtain ⟨y, _, hy⟩ := List.mem_flatMap.1 hu
    exact hone y u hy
  · intro v' w' h1 h2 _
    have hblk := h2.block
    obtain ⟨R, N, rfl⟩ := hg.grown h2 (fun q hq => OwnAt.lt hown q hq)
    refine h v' R N ?_ (fun q hq hne => hblk q hq (fun e => hne e.symm))
    unfold OwnAt
    rw [List.length_append, List.flatMap_append]
    exact h1

/-- b is no block of bytes of the call's own. -/
def Safe (base b : Nat) (W : World) : Prop := b < base ∨ ∃ c t f, W.heap[b]? = some (.cells c t f) ∧ t ≠ 5
theorem Safe.own {base b : Nat} {W : World} {vb : Value} {bs : List UInt8} (h : Safe base b W) (ho : OwnAt base 5 1 encB W vb bs) : vb.ownBlock ≠ some b := by
  intro e
  obtain ⟨h1, h2⟩ := ho
  rcases h2 with ⟨rfl, _⟩ | ⟨g, cap, cur, rfl, hb, hh, _⟩
  · cases e
  · cases e
    rcases h with h | ⟨c, t, f, hc, ht⟩
    · exact absurd h (by show ¬ (g < base); omega)
    · rw [show (Addr.block ⟨g, 0, none⟩) = g from rfl] at hc
      rw [hh] at hc
      cases hc
      exact ht rfl

theorem RowsAt.sameBlock {α : Type} {k : Nat} {enc : α → List Value} {W W' : World} {v : Value} {l : List α} (h : RowsAt k enc W v l) (hb : ∀ b off, (∃ n c, v = .slice (some ⟨b, off, none⟩) n c) → W'.heap[b]? = W.heap[b]?) : RowsAt k enc W' v l := by
  obtain ⟨a, cap, rfl, hm, hl⟩ := h
  refine ⟨a, cap, rfl, hm, fun hne => ?_⟩
  obtain ⟨b, off, rfl, hx⟩ := hl hne
  refine ⟨b, off, rfl, fun i x hi j u hu => ?_⟩
  rw [← hx i x hi j u hu]
  unfold World.cell?
  rw [hb b off ⟨_, _, rfl⟩]
theorem Safe.sameBlock {base b : Nat} {W W' : World} (h : Safe base b W) (hb : W'.heap[b]? = W.heap[b]?) : Safe base b W' := by
  rcases h with h | ⟨c, t, f, hc, ht⟩
  · exact .inl h
  · exact .inr ⟨c, t, f, by rw [hb]; exact hc, ht⟩

/-- What lies behind a write of the buffer. -/
theorem heap_set_self {W : World} {B : Nat} {vb v' : Value} {t : TypeId} (h : W.heap[B]? = some (.cells #[vb] t)) : (W.setCell ⟨B, 0, none⟩ v').heap[B]? = some (.cells #[v'] t) := by
  unfold World.setCell
  simp only [Array.getElem?_modify, if_true, h]
  rfl
theorem heap_set_other {W : World} {B b : Nat} {v' : Value} (h : B ≠ b) : (W.setCell ⟨B, 0, none⟩ v').heap[b]? = W.heap[b]? := by
  unfold World.setCell
  simp only [Array.getElem?_modify, h, if_false]
theorem Grew.setBehind {w0 W : World} (g : Grew w0 W) {B : Nat} (hB : w0.heap.size ≤ B) (v' : Value) : Grew w0 (W.setCell ⟨B, 0, none⟩ v') :=
  Grew.ofBelow (g.below.setCell hB _)
theorem OwnAt.sameBlock {α : Type} {base : Nat} {e : TypeId} {k : Nat} {enc : α → List Value} {W W' : World} {v : Value} {l : List α} (h : OwnAt base e k enc W v l) (hb : ∀ b, v.ownBlock = some b → W'.heap[b]? = W.heap[b]?) : OwnAt base e k enc W' v l := by
  obtain ⟨h1, h2⟩ := h
  refine ⟨h1, ?_⟩
  rcases h2 with h | ⟨g, cap, cur, rfl, hg, hh, r⟩
  · exact .inl h
  · exact .inr ⟨g, cap, cur, rfl, hg, by rw [hb g rfl]; exact hh, r⟩
theorem WriterAt.safe {base B : Nat} {W : World} {vb : Value} {bs : List UInt8} (h : WriterAt base B W vb bs) : Safe base B W := .inr ⟨_, _, _, h.2.1, by decide⟩

theorem own_some {α : Type} {base : Nat} {e : TypeId} {k : Nat} {enc : α → List Value} {w : World} {v : Value} {l : List α} (h : OwnAt base e k enc w v l) (hne : l ≠ []) : ∃ b n cap, v = .slice (some ⟨b, 0, none⟩) n cap := by
  rcases h.form with ⟨_, h⟩ | ⟨b, cap, h, _⟩
  · exact absurd h hne
  · exact ⟨b, _, cap, h⟩
theorem heap_alloc_old {W : World} {b : Nat} {x : Obj} (h : W.heap[b]? = some x) (o : Obj) : (W.alloc o).heap[b]? = some x := by
  have hb := (Array.getElem?_eq_some_iff.1 h).1
  show (W.heap.push o)[b]? = some x
  rw [Array.getElem?_push_lt hb]
  rw [← h, Array.getElem?_eq_getElem hb]
theorem be_cells (x : Int) : (Oc.be x).flatMap encB = [.int .u8 (x % 4294967296 / 16777216), .int .u8 (x % 4294967296 / 65536 % 256), .int .u8 (x % 4294967296 / 256 % 256), .int .u8 (x % 256)] := by
  have h0 : 0 ≤ x % 4294967296 := Int.emod_nonneg _ (by decide)
  have h1 : x % 4294967296 < 4294967296 := Int.emod_lt_of_pos _ (by decide)
  have e : ∀ z : Int, 0 ≤ z → z < 256 → ((UInt8.ofNat z.toNat).toNat : Int) = z := by
    intro z hz hz2
    rw [UInt8.toNat_ofNat']
    omega
  unfold Oc.be
  simp only [List.flatMap_cons, List.flatMap_nil, encB, List.append_nil, List.cons_append, List.nil_append]
  rw [e _ (by omega) (by omega), e _ (by omega) (by omega), e _ (by omega) (by omega), e _ (by omega) (by omega)]
  have h2 : x % 4294967296 % 256 = x % 256 := by omega
  rw [h2]
theorem be_new (W : World) (x : Int) (t : TypeId) (b : Nat) (c : Array Value) (hb : b = W.heap.size) (hc : c = #[.int .u8 (x % 4294967296 / 16777216), .int .u8 (x % 4294967296 / 65536 % 256), .int .u8 (x % 4294967296 / 256 % 256), .int .u8 (x % 256)]) : ∀ j u, ((Oc.be x).flatMap encB)[j]? = some u → (W.alloc (.cells c t)).cell? ⟨b, j, none⟩ = some u := by
  subst hc
  intro j u hu
  rw [be_cells] at hu
  rw [new_cells W _ t b hb j]
  simpa using hu

set_option maxHeartbeats 4000000 in
theorem writerNum_any (w0 W : World) (B : Nat) (vb : Value) (bs : List UInt8) (v : Value) (l : List Int) (hw : WriterAt w0.heap.size B W vb bs) (hg : Grew w0 W) (hv : RowsAt 1 encN W v l)
    (hs : ∀ b off, (∃ n c, v = .slice (some ⟨b, off, none⟩) n c) → Safe w0.heap.size b W ∧ b ≠ B) (hok : l.all Oc.fitsN = true) (hlen : bs.length + l.length * 4 ≤ 100000) :
    Calls Tryz.prog 53 #[.pointer (some ⟨B, 0, none⟩), v] W fun e W' => e = .returned (.int .i64 0) ∧ Grew w0 W' ∧ ∃ vb', WriterAt w0.heap.size B W' vb' (bs ++ Oc.bes l) := by
  obtain ⟨a, cap, rfl, hm, hl⟩ := hv.open1
  have HV := Lib.hid hv
  have HS := Lib.hid hs
  have HW := Lib.hid hw
  have HOK := Lib.hid hok
  clear hv hs hw hok
  go_enter Tryz.func53, Tryz.ntmps53
  go_wp2
  go_loop [14] (fun i => ∃ (k : Nat), k ≤ l.length ∧ i = .int .i64 k) (fun i => l.length - (intOf i).toNat)
  case atStart => exact ⟨0, Nat.zero_le _, rfl⟩
  case round =>
    obtain ⟨k, hk, rfl⟩ := hrel
    by_cases hlt : k < l.length
    · obtain ⟨b, off, rfl, hb, hx⟩ := hl k hlt
      have hf : Oc.fitsN l[k] = true := List.all_eq_true.1 HOK.out _ (List.getElem_mem hlt)
      generalize l[k] = x at *
      have HF := Lib.hid hf
      clear hl hf
      go_wp2_with (go_at_call 93; refine (octFits_any _ _).mono ?_; rintro e w1 ⟨rfl, rfl⟩; rw [HF.out])
      go_round
      case rel => exact ⟨k + 1, by omega, by go_num⟩
      case measure => first | (simp [intOf]; done) | (simp [intOf]; omega)
    · obtain rfl : k = l.length := by omega
      clear hl
      go_wp2
      go_loopw [24] (fun i wr => ∃ (k : Nat) (vk : Value), k ≤ l.length ∧ i = .int .i64 k ∧ WriterAt w0.heap.size B wr vk (bs ++ Oc.bes (l.take k)) ∧ Grew w0 wr ∧ RowsAt 1 encN wr (.slice a l.length cap) l ∧ (∀ b off, (∃ n c, (.slice a l.length cap : Value) = .slice (some ⟨b, off, none⟩) n c) → Safe w0.heap.size b wr ∧ b ≠ B))
        (fun i _ => l.length - (intOf i).toNat)
      case atStart => exact ⟨0, vb, Nat.zero_le _, rfl, by simpa [Oc.bes] using HW.out, hg, HV.out, HS.out⟩
      case round =>
        obtain ⟨k, vk, hk, rfl, hwk, hgk, hrk, hsk⟩ := hrel
        by_cases hlt : k < l.length
        · obtain ⟨a', cap', hveq, -, hl⟩ := hrk.open1
          cases hveq
          obtain ⟨b, off, rfl, hb, hx⟩ := hl k hlt
          have hfx : Oc.fitsN l[k] = true := List.all_eq_true.1 HOK.out _ (List.getElem_mem hlt)
          have hbs := Oc.bes_succ l k hlt
          have hbl := Oc.bes_len (l.take k)
          rw [List.length_take_of_le hk] at hbl
          generalize l[k] = x at *
          unfold Oc.fitsN at hfx
          simp only [Bool.and_eq_true, decide_eq_true_eq] at hfx
          obtain ⟨x0, x1⟩ := hfx
          have HBS := Lib.hid hbs
          have HBL := Lib.hid hbl
          clear hbs hbl
          have hb' := hb
          have HWK := Lib.hid hwk
          have HRK := Lib.hid hrk
          have HSK := Lib.hid hsk
          have hcB := cell_of_heap (o := 0) hwk.2.1
          have hfB := frozen_of_heap (o := 0) hwk.2.1
          simp at hcB
          have HG := Lib.hid hgk
          clear hl hwk hrk hsk hgk hg
          go_wp2_with (at_builtin; refine wpList_ownG (w0 := w0) rfl (.tmp 35) (.tmp 47) 65 _ _ _ _ (Oc.be x) rfl Tryz.underlying65 infoU8 rfl (by decide) encB_len encB_one rfl (HWK.out.2.2.grew (by repeat (first | with_reducible exact Grew.refl _ | apply Grew.more | apply Grew.alloc | apply Grew.drew | apply Grew.drewN))) (HG.out.alloc _) rfl (be_new _ _ _ _ _ rfl rfl) (by rw [List.length_append, HBL.out, Oc.be_len]; omega) (by decide) ?_; intro v9 R9 n9 hown9 hkeep9; (have hB9 : (w0.more R9 n9).heap[B]? = some (.cells #[vk] 67) := by rw [hkeep9 B (by have := (Array.getElem?_eq_some_iff.1 HWK.out.2.1).1; simp [go_sem]; omega) (HWK.out.safe.own HWK.out.2.2)]; exact heap_alloc_old HWK.out.2.1 _); (have hcB9 := cell_of_heap (o := 0) hB9); (have hfB9 := frozen_of_heap (o := 0) hB9); simp at hcB9; obtain ⟨b9, N9, c9, rfl⟩ := own_some hown9 (fun h => by have h2 := congrArg List.length h; rw [List.length_append, Oc.be_len] at h2; simp at h2); (have HO9 := Lib.hid hown9); (have HK9 := Lib.hid hkeep9); (have HB9 := Lib.hid hB9); clear hown9 hkeep9 hB9)
          have hBb : B ≠ b := fun e => (HSK.out b off ⟨_, _, rfl⟩).2 e.symm
          have hsb := (HSK.out b off ⟨_, _, rfl⟩).1
          have hkb : (w0.more R9 n9).heap[b]? = wr.heap[b]? := by
            have hlt : b < wr.heap.size := hb'
            rw [HK9.out b (by simp [go_sem]; omega) (hsb.own HWK.out.2.2)]
            have : wr.heap[b]? = some wr.heap[b] := Array.getElem?_eq_getElem hlt
            rw [this]
            exact heap_alloc_old this _
          have hfin : ∀ v9, ((w0.more R9 n9).setCell ⟨B, 0, none⟩ v9).heap[b]? = wr.heap[b]? := fun v9 => by rw [heap_set_other hBb, hkb]
          have hsB : Safe w0.heap.size B (w0.more R9 n9) := .inr ⟨_, _, _, HB9.out, by decide⟩
          have HFIN := Lib.hid hfin
          clear hfin hkb
          go_roundw
          case rel =>
            refine ⟨k + 1, _, by omega, by go_num, ⟨HWK.out.1, heap_set_self HB9.out, ?_⟩, Grew.setBehind ⟨R9, n9, rfl⟩ HWK.out.1 _, RowsAt.sameBlock HRK.out ?_, ?_⟩
            · rw [HBS.out, ← List.append_assoc]
              exact OwnAt.sameBlock HO9.out fun q hq => heap_set_other (fun e => by subst e; exact hsB.own HO9.out hq)
            · rintro b2 off2 ⟨n2, c2, e⟩
              cases e; exact HFIN.out _
            · rintro b2 off2 ⟨n2, c2, e⟩
              cases e
              exact ⟨hsb.sameBlock (HFIN.out _), fun e => hBb e.symm⟩
          case measure => first | (simp [intOf]; done) | (simp [intOf]; omega)
        · obtain rfl : k = l.length := by omega
          rw [List.take_length] at hwk
          have HWK := Lib.hid hwk
          clear hwk hrk hsk
          go_wp2
          go_ret
          exact ⟨rfl, hgk, vk, HWK.out⟩
end Go.Proofs.YtangapokicnfgaaGreat

/-! slices.Clone at numbers and at instructions; graph.own. -/
namespace Go.Proofs.YtangapokicnfgaaGreat
set_option linter.unusedSimpArgs false
set_option linter.unusedVariables false
open Go.RowKit Ga
set_option maxRecDepth 100000

theorem rows_one {α : Type} {k : Nat} {enc : α → List Value} {w : World} {v : Value} {l : List α} (h : RowsAt k enc w v l) : v.oneCell' = true := by
  obtain ⟨a, cap, rfl, -⟩ := h
  rfl
def MadeOf (P : Value → World → Prop) (w : World) (e : Ending) (w' : World) : Prop := ∃ v, e = .returned v ∧ P v w' ∧ Grew w w'
theorem cloneInts_any (v : Value) (l : List Int) (w : World) (hv : IntsAt w v l) (hl : l.length ≤ 1000) : Calls Tryz.prog 91 #[v] w (MadeOf (fun v' w' => OwnAt w.heap.size 3 1 encN w' v' l) w) := by
  obtain ⟨a, cap, rfl, hm, hx⟩ := ints_open hv
  cases a with
  | none =>
    have h0 : l = [] := by
      cases l with
      | nil => rfl
      | cons x l => obtain ⟨b, off, h, _⟩ := hx 0 (by simp); cases h
    subst h0
    exact (Tryz.slices_Clone_int_nil _ _ _).mono fun e w' ⟨he, hw⟩ => ⟨_, he, OwnAt.nil _, hw ▸ Grew.refl w⟩
  | some ad =>
    cases l with
    | nil => exact (Tryz.slices_Clone_int_zero ad cap w).mono fun e w' ⟨v', he, ho, _, hb⟩ => ⟨v', he, ho, Grew.ofBelow hb⟩
    | cons x l =>
      obtain ⟨b, off, h, _⟩ := hx 0 (by simp)
      cases h
      refine (Tryz.slices_Clone_int b off _ cap (x :: l) w (Nat.le_refl _) (by simp at hl ⊢; omega) fun j hj => ?_).mono fun e w' ⟨v', he, ho, _, hb⟩ => ⟨v', he, ?_, Grew.ofBelow hb⟩
      · obtain ⟨b', off', h, _, hc⟩ := hx j hj
        cases h
        rw [List.getD_eq_getElem?_getD, List.getElem?_eq_getElem hj]
        exact hc
      · unfold OwnAt
        rw [List.take_of_length_le (Nat.le_refl _)] at ho
        have e1 : (x :: l).flatMap encN = (x :: l).map (Value.int .i64) := by
          generalize x :: l = l
          induction l with
          | nil => rfl
          | cons x l ih => rw [List.flatMap_cons, ih]; rfl
        rw [e1]
        exact ho

theorem addr_add (b off j : Nat) : (⟨b, off, none⟩ : Addr).add j = ⟨b, off + j, none⟩ := by
  unfold Addr.add; split
  · rename_i h; have : j = 0 := by simpa using h
    rw [this]; rfl
  · rfl
theorem cloneVals_any (v : Value) (l : List Val) (w : World) (hv : ValsAt w v l) (hl : l.length ≤ 1000) : Calls Tryz.prog 90 #[v] w (MadeOf (fun v' w' => OwnAt w.heap.size 123 2 encI w' v' l) w) := by
  obtain ⟨a, cap, rfl, hm, hx⟩ := hv
  cases a with
  | none =>
    have h0 : l = [] := by
      cases l with
      | nil => rfl
      | cons x l => obtain ⟨b, off, h, _⟩ := hx (by simp); cases h
    subst h0
    exact (AnyE.slices_Clone_nil Tryz.cloneInstr _ _ _).mono fun e w' ⟨he, hw⟩ => ⟨_, he, OwnAt.nil _, hw ▸ Grew.refl w⟩
  | some ad =>
    have hnews : ∀ j u, (l.flatMap encI)[j]? = some u → (w.alloc (.cells #[] 123)).cell? (ad.add j) = some u := by
      intro j u hj
      obtain ⟨q, y, r, h1, h2, rfl⟩ := flat_inv encI_len l j u hj
      obtain ⟨b, off, h, hc⟩ := hx (by intro e; subst e; simp at h1)
      cases h
      rw [addr_add]
      have h3 := hc q y h1 r u h2
      rw [Nat.add_assoc] at h3
      exact Lib.cell?_alloc_some _ h3
    have HN := Lib.hid hnews
    obtain ⟨i, hi, hz0, hz1, hz2⟩ := info_parts infoIns
    have q22 : ∀ (w : World) (a : Option Addr) (n c n' c' : Nat), (binOp .eql 42 (.slice a n c) (.slice none n' c')).run Tryz.prog w = .ok (.bool a.isNone) w := fun w a n c n' c' => Lib.run_eql_slice_nil w _ _ a n c n' c' Tryz.underlying42
    clear hnews hx
    go_enter Tryz.func90, Tryz.ntmps90
    go_wp2_with (at_builtin; refine wpList_append_own _ rfl _ _ 42 rfl w.heap.size 123 i _ 2 16 Tryz.underlying42 hi hz0 hz1 hz2 rfl (by decide) _ _ _ rfl (World.ownsRow_made w #[] 0 (Nat.le_refl _) (Nat.zero_le _) rfl) ad l.length cap (l.flatMap encI) rfl (flat_length encI_len l) HN.out (by intro u hu; obtain ⟨y, _, hy⟩ := List.mem_flatMap.1 hu; exact encI_one y u hy) (by unfold maxLen; omega) (by omega) (by simp) ?_)
    intro v' w1 hown hgrow hnil
    go_wp2
    go_ret
    refine ⟨v', rfl, ?_, Grew.ofBelow (((Below.refl _ w).alloc (Nat.le_refl _) _).grown hgrow (by simp) (by intro k hk; simp [Value.ownBlock] at hk; omega))⟩
    unfold OwnAt
    simpa using hown

theorem heap_more_same {W W' : World} (hs : W.heap.size = W'.heap.size) (R : Array Obj) (n b : Nat) (hb : W.heap.size ≤ b) : (W'.more R n).heap[b]? = (W.more R n).heap[b]? := by
  rw [heap_more_in W R n b hb, heap_more_in W' R n b (by omega), hs]
/-- its slices lie behind 'base' -/
def OwnsNd (base : Nat) (w : World) (c : NdC) (n : Gr.Nd) : Prop := OwnAt base 3 1 encN w c.vf n.frm ∧ OwnAt base 123 2 encI w c.vp n.prog
theorem OwnAt.low {α : Type} {base base' : Nat} {e : TypeId} {k : Nat} {enc : α → List Value} {w : World} {v : Value} {l : List α} (h : OwnAt base e k enc w v l) (hb : base' ≤ base) : OwnAt base' e k enc w v l := by
  obtain ⟨h1, h2⟩ := h
  refine ⟨h1, ?_⟩
  rcases h2 with h | ⟨g, cap, cur, hv, h3, r⟩
  · exact .inl h
  · exact .inr ⟨g, cap, cur, hv, Nat.le_trans hb h3, r⟩
theorem OwnsNd.to {base : Nat} {w w' : World} {c : NdC} {n : Gr.Nd} (o : OwnsNd base w c n) (hb : ∀ b, base ≤ b → b < w.heap.size → w'.heap[b]? = w.heap[b]?) : OwnsNd base w' c n := by
  refine ⟨OwnAt.same o.1 fun b h => ?_, OwnAt.same o.2 fun b h => ?_⟩
  · obtain ⟨h1, _, h2⟩ := OwnAt.block o.1 h
    exact hb b h1 (heap_lt h2)
  · obtain ⟨h1, _, h2⟩ := OwnAt.block o.2 h
    exact hb b h1 (heap_lt h2)
theorem OwnsNd.is {base : Nat} {w w' : World} {c : NdC} {n : Gr.Nd} (o : OwnsNd base w' c n) (h : NodeIs w c n) : NodeIs w' c n :=
  { h with f := o.1.rows encN_len, p := o.2.rows encI_len }
theorem OwnsNd.low {base base' : Nat} {w : World} {c : NdC} {n : Gr.Nd} (o : OwnsNd base w c n) (hb : base' ≤ base) : OwnsNd base' w c n := ⟨OwnAt.low o.1 hb, OwnAt.low o.2 hb⟩
theorem OwnsNd.grew {base : Nat} {w w' : World} {c : NdC} {n : Gr.Nd} (o : OwnsNd base w c n) (g : Grew w w') : OwnsNd base w' c n := ⟨o.1.grew g, o.2.grew g⟩
/-- a node comes back that is the same, in memory of its own -/
def GivesNode (n : Gr.Nd) (w : World) (e : Ending) (w' : World) : Prop := ∃ c : NdC, e = .returned (.agg #[.int .i64 c.id, .int .i64 c.kind, .slice c.af c.nf c.cf, .slice c.ap c.np c.cp, .int .i64 c.par, .int .i64 c.r0, .int .i64 c.r1, .int .i64 c.r2, .int .i64 c.r3, .int .i64 c.r4, .int .i64 c.r5, .int .i64 c.r6, .int .i64 c.r7]) ∧ NodeIs w' c n ∧ OwnsNd w.heap.size w' c n ∧ Grew w w'
theorem OwnAt.cap {α : Type} {base : Nat} {e : TypeId} {k : Nat} {enc : α → List Value} {w : World} {a : Option Addr} {n cap : Nat} {l : List α} (h : OwnAt base e k enc w (.slice a n cap) l) : l.length ≤ cap := by
  obtain ⟨h1, h2⟩ := h
  rcases h2 with ⟨h, h0⟩ | ⟨g, cap', cur, hv, hb, hh, hc, r⟩
  · rw [h0]; exact Nat.zero_le _
  · cases hv; exact hc
theorem node_made {w w' : World} (c : NdC) {c0 : NdC} {n : Gr.Nd} (h : NodeIs w c0 n) (ei : c0.id = c.id) (ek : c0.kind = c.kind) (ep : c0.par = c.par) (e0 : c0.r0 = c.r0) (e1 : c0.r1 = c.r1) (e2 : c0.r2 = c.r2) (e3 : c0.r3 = c.r3) (e4 : c0.r4 = c.r4) (e5 : c0.r5 = c.r5) (e6 : c0.r6 = c.r6) (e7 : c0.r7 = c.r7)
    (o1 : OwnAt w.heap.size 3 1 encN w' c.vf n.frm) (o2 : OwnAt w.heap.size 123 2 encI w' c.vp n.prog) (g : Grew w w') : GivesNode n w (.returned (.agg #[.int .i64 c.id, .int .i64 c.kind, .slice c.af c.nf c.cf, .slice c.ap c.np c.cp, .int .i64 c.par, .int .i64 c.r0, .int .i64 c.r1, .int .i64 c.r2, .int .i64 c.r3, .int .i64 c.r4, .int .i64 c.r5, .int .i64 c.r6, .int .i64 c.r7])) w' :=
  ⟨c, rfl, ⟨h.id.trans ei, h.kind.trans ek, o1.rows encN_len, o2.rows encI_len, h.par.trans ep, by rw [h.route, e0, e1, e2, e3, e4, e5, e6, e7], OwnAt.cap o1⟩, ⟨o1, o2⟩, g⟩
set_option maxHeartbeats 4000000 in
theorem own_any (c : NdC) (n : Gr.Nd) (w : World) (hn : NodeIs w c n) (hf : n.frm.length ≤ 1000) (hp : n.prog.length ≤ 1000) : Calls Tryz.prog 96 #[.agg #[.int .i64 c.id, .int .i64 c.kind, .slice c.af c.nf c.cf, .slice c.ap c.np c.cp, .int .i64 c.par, .int .i64 c.r0, .int .i64 c.r1, .int .i64 c.r2, .int .i64 c.r3, .int .i64 c.r4, .int .i64 c.r5, .int .i64 c.r6, .int .i64 c.r7]] w (GivesNode n w) := by
  obtain ⟨id, kind, af, cf, ap, cp, par, r0, r1, r2, r3, r4, r5, r6, r7, rfl⟩ := hn.lit
  have HN := Lib.hid hn
  clear hn
  have h1 := fun W (g : Grew w W) => cloneInts_any _ n.frm W (HN.out.f.grew g) hf
  have h2 := fun W (g : Grew w W) => cloneVals_any _ n.prog W (HN.out.p.grew g) hp
  have H1 := Lib.hid h1
  have H2 := Lib.hid h2
  clear h1 h2
  show Calls Tryz.prog 96 #[.agg #[.int .i64 id, .int .i64 kind, .slice af n.frm.length cf, .slice ap n.prog.length cp, .int .i64 par, .int .i64 r0, .int .i64 r1, .int .i64 r2, .int .i64 r3, .int .i64 r4, .int .i64 r5, .int .i64 r6, .int .i64 r7]] w _
  go_enter Tryz.func96, Tryz.ntmps96
  go_wp2_with fail
  refine wp_region_noPanic ?_
  go_region_law (first
    | (go_simp; go_at_call 91; refine (H1.out _ (by repeat (first | with_reducible exact Grew.refl _ | apply Grew.more | apply Grew.alloc | apply Grew.drew | apply Grew.drewN))).mono ?_; rintro e w1 ⟨v1, rfl, ho1, R3, n3, rfl⟩; obtain ⟨a1, c1, rfl⟩ := (ho1.rows encN_len).len; (have HO1 := Lib.hid ho1); clear ho1)
    | (go_simp; go_at_call 90; refine (H2.out _ (by repeat (first | with_reducible exact Grew.refl _ | apply Grew.more | apply Grew.alloc | apply Grew.drew | apply Grew.drewN))).mono ?_; rintro e w1 ⟨v2, rfl, ho2, R4, n4, rfl⟩; obtain ⟨a2, c2, rfl⟩ := (ho2.rows encI_len).len; (have HO2 := Lib.hid ho2); clear ho2))
  all_goals
    refine NoPanic.normal ?_
    go_wp2
    refine bodyPost_ret (v := .agg #[.int .i64 id, .int .i64 kind, .slice a1 n.frm.length c1, .slice a2 n.prog.length c2, .int .i64 par, .int .i64 r0, .int .i64 r1, .int .i64 r2, .int .i64 r3, .int .i64 r4, .int .i64 r5, .int .i64 r6, .int .i64 r7]) (by simp [results, Tryz.results96, go_sem]) rfl ?_
    refine node_made ⟨id, kind, a1, n.frm.length, c1, a2, n.prog.length, c2, par, r0, r1, r2, r3, r4, r5, r6, r7⟩ HN.out rfl rfl rfl rfl rfl rfl rfl rfl rfl rfl rfl
      (OwnAt.low (OwnAt.grew (OwnAt.same HO1.out fun b hb => heap_more_same (by simp [World.size_alloc]) _ _ _ (by have := HO1.out.lt b hb; simp [World.size_alloc] at this ⊢; omega)) (Grew.more (Grew.refl _) R4 n4)) (by simp [World.size_alloc]; omega))
      (OwnAt.low (OwnAt.same HO2.out fun b hb => heap_more_same (by simp [World.size_alloc, World.more_size]) _ _ _ (by have := HO2.out.lt b hb; simp [World.size_alloc, World.more_size] at this ⊢; omega)) (by simp [World.size_alloc, World.more_size]; omega)) (by repeat (first | with_reducible exact Grew.refl _ | apply Grew.more | apply Grew.alloc | apply Grew.drew | apply Grew.drewN))
end Go.Proofs.YtangapokicnfgaaGreat
