import Derived.Test.YtpbohimddmploaaGreatCd0
import Derived.Test.YtpbohimddmploaaGreatCd10
import Derived.Laws.OwnMore
import Derived.Laws.CopyOwn
import Derived.Deep.DeepCutAuto
import Derived.Deep.CutBlock
import Derived.Deep.RegionHeld3
import Derived.Deep.LoopGhost
set_option linter.unusedSimpArgs false
set_option linter.unusedVariables false
set_option maxRecDepth 100000
set_option maxHeartbeats 64000000
namespace Go
theorem wanted_noneP {o : Oper} {y : Nat → Option Bool} (h : o.guard = none) : Region.wanted o y = true := by simp [Region.wanted, h]
theorem if_wantedP {c : Prop} [Decidable c] {A B : Prop} (hc : c) (h : A) : if c then A else B := by rw [if_pos hc]; exact h
theorem wp_ownF {α : Type} {e : TypeId} {k : Nat} {enc : α → List Value} {base g n cap : Nat} {vx : Value} {l l2 : List α} {P : Program} {o : Oper} {a : Act} {K : Act → World → Prop} {Q : Exit → Act → World → Prop} {W : World}
    (s x : Operand) (t : TypeId) (z : Value) (bytes r : Nat)
    (ho : o.op = .call { callee := .builtin .append, args := #[s, x], argTypes := #[t, t] })
    (ht : P.underlying t = some (.slice e)) (hinfo : (P.info? e).map (fun i => (i.zero, i.size, i.bytes)) = some (some z, k, bytes))
    (henc : ∀ x, (enc x).length = k) (hone : ∀ x, ∀ u ∈ enc x, u.oneCell' = true)
    (hs : a.eval s = .slice (some ⟨g, 0, none⟩) n cap) (hn : n = l.length) (hown : OwnAt base e k enc W (.slice (some ⟨g, 0, none⟩) n cap) l)
    (hx : a.eval x = vx) (hrows : RowsAt k enc W vx l2) (hnil : ∃ ad c, vx = .slice (some ad) l2.length c)
    (hroom : r ≤ cap) (hr : r = l.length + l2.length)
    (h : ∀ W', OwnAt base e k enc W' (.slice (some ⟨g, 0, none⟩) r cap) (l ++ l2) → W.grownBy W' (some g) → K (a.put o.dst (.slice (some ⟨g, 0, none⟩) r cap)) W') : Oper.wp P o a W K Q := by
  subst hn hr
  obtain ⟨i, hi, hz0, hz1, hz2⟩ := info_parts hinfo
  obtain ⟨a2, cap2, hv2, hm2, hc2⟩ := hrows
  obtain ⟨ad, c, h0⟩ := hnil
  subst h0
  obtain ⟨W', hrun, h1, h2⟩ := run_append_fits (P := P) W base t o.type e i k ht hi hz1 g l.length cap (l.flatMap enc) hown ad l2.length c (l2.flatMap enc) (flat_length henc l2) (by
      intro j u hj
      obtain ⟨q, y, r, h1, h2, rfl⟩ := flat_inv henc l2 j u hj
      obtain ⟨b, off, hb, hcell⟩ := hc2 (by intro e; subst e; simp at h1)
      cases hv2
      cases hb
      rw [addr_add_off, ← Nat.add_assoc]
      exact hcell q y h1 r u h2) (by
      intro u hu
      obtain ⟨y, _, hy⟩ := List.mem_flatMap.1 hu
      exact hone y u hy) hroom
  unfold Oper.wp
  simp [execOp, ho, resolve, invoke, builtin, hs, hx, hrun, Result.andThen]
  refine h W' ?_ h2
  unfold OwnAt
  rw [List.length_append, List.flatMap_append]
  exact h1
end Go
namespace Go.Proofs.YtpbohimddmploaaGreat
open Go.RowKit Ga
theorem rows_dropN {w : World} {b n cap : Nat} {l : List NdC} {j : Nat} (h : RowsAt 13 encNd w (.slice (some ⟨b, 0, none⟩) n cap) l) (hj : j ≤ l.length) (c2 m off : Nat) (hm : m = l.length - j) (ho : off = j * 13) : RowsAt 13 encNd w (.slice (some ⟨b, off, none⟩) m c2) (l.drop j) := by
  subst hm ho
  obtain ⟨a, cap', e, hmx, hx⟩ := h
  cases e
  refine ⟨_, _, by rw [List.length_drop], by rw [List.length_drop]; omega, fun hne => ?_⟩
  obtain ⟨b', off', e, hc⟩ := hx (by intro e; subst e; simp at hne)
  cases e
  refine ⟨_, _, rfl, fun i x hi q v hv => ?_⟩
  rw [List.getElem?_drop] at hi
  have := hc (j + i) x hi q v hv
  rw [← this]
  congr 2
  simp
  omega
theorem rows_dropIf {w : World} {b n cap : Nat} {l : List NdC} {i j : Nat} (h : RowsAt 13 encNd w (.slice (some ⟨b, 0, none⟩) n cap) l) (hn : n = l.length) (hj : j ≤ l.length) (hc : l.length ≤ cap) (hij : j = i + 1) : RowsAt 13 encNd w (.slice (if cap = j then some ⟨b, 0, none⟩ else some ⟨b, j * 13, none⟩) (n - j) (cap - j)) (l.drop (i + 1)) := by
  subst hij hn
  by_cases e : cap = i + 1
  · rw [if_pos e, List.drop_eq_nil_of_le (by omega), show l.length - (i + 1) = 0 by omega]
    exact ⟨_, _, rfl, by simp [maxLen], fun h => absurd rfl h⟩
  · rw [if_neg e]
    exact rows_dropN h hj _ _ _ rfl rfl
theorem ite_some (b j cap n : Nat) : ∃ ad c, Value.slice (if cap = j then some (⟨b, 0, none⟩ : Addr) else some ⟨b, j * 13, none⟩) n (cap - j) = .slice (some ad) n c := by
  split <;> exact ⟨_, _, rfl⟩
def zNdP : Value := .agg #[.int .i64 0, .int .i64 0, .slice none 0 0, .slice none 0 0, .int .i64 0, .int .i64 0, .int .i64 0, .int .i64 0, .int .i64 0, .int .i64 0, .int .i64 0, .int .i64 0, .int .i64 0]
theorem infoNdP : (Tryz.prog.info? 56).map (fun i => (i.zero, i.size, i.bytes)) = some (some zNdP, 13, 136) := by kernel_rfl
theorem encNd_oneP (c : NdC) : ∀ u ∈ encNd c, u.oneCell' = true := by
  intro u hu
  simp [encNd] at hu
  rcases hu with rfl | rfl | rfl | rfl | rfl | rfl | rfl | rfl | rfl | rfl | rfl | rfl | rfl <;> rfl
def DelPost (w0 w : World) (b m cap : Nat) (l : List NdC) (e : Ending) (w' : World) : Prop := e = .returned (.slice (some ⟨b, 0, none⟩) m cap) ∧ OwnAt w0.heap.size 56 13 encNd w' (.slice (some ⟨b, 0, none⟩) m cap) l ∧ Grew w0 w' ∧ Keep b w w'
theorem zc13 : (Builtin.zeroCells zNdP.cells 1).size = 13 := by kernel_rfl
theorem zc_one : ∀ v ∈ (Builtin.zeroCells zNdP.cells 1).toList, v.oneCell' = true := List.all_eq_true.1 (show (Builtin.zeroCells zNdP.cells 1).toList.all (·.oneCell') = true by kernel_rfl)
theorem delete_any (w0 w : World) (b cap m i j : Nat) (hij : j = i + 1) (lc : List NdC) (hg : Grew w0 w) (h : OwnAt w0.heap.size 56 13 encNd w (.slice (some ⟨b, 0, none⟩) (m + 1) cap) lc) (hi : i ≤ m) (hm : m ≤ 1000) :
    Calls Tryz.prog 160 #[.slice (some ⟨b, 0, none⟩) (m + 1) cap, .int .i64 (i : Int), .int .i64 (j : Int)] w (DelPost w0 w b m cap (lc.take i ++ lc.drop (i + 1))) := by
  obtain ⟨hl, hbb, hlc, hcm, cur, hh, hsz, -⟩ := h.cells
  have HO := Lib.hid h
  have HG := Lib.hid hg
  have HR := Lib.hid (OwnAt.rows h encNd_len)
  have HCUT := Lib.hid (OwnAt.cut h encNd_len (m := i) (by omega))
  have HH := Lib.hid hh
  have HBB := Lib.hid hbb
  have HSZ := Lib.hid hsz
  have hcap : (m : Int) + 1 ≤ (cap : Int) := by omega
  have hic : (i : Int) ≤ (cap : Int) := by omega
  have hic2 : (j : Int) ≤ (cap : Int) := by omega
  have him : (i : Int) ≤ (m : Int) := by omega
  have hne : ((i : Int) == (j : Int)) = false := by simp; omega
  have hij2 : (i : Int) ≤ (j : Int) := by omega
  have hjm : (j : Int) ≤ (m : Int) + 1 := by omega
  have hcm2 : ¬ (cap = m) := by omega
  have hcmm : (m : Int) ≤ (cap : Int) := by omega
  clear h hg hh hsz
  have HL := Lib.hid hl
  have HIJ := Lib.hid hij
  have hlt : i < j := by omega
  have hjl : j ≤ m + 1 := by omega
  have hR2 : (lc.take i).length = i := by rw [List.length_take]; omega
  have hR3 : (lc.drop (i + 1)).length = m + 1 - j := by rw [List.length_drop]; omega
  have HR2 := Lib.hid hR2
  have HR3 := Lib.hid hR3
  have HJ : Hid (j ≤ m + 1 ∧ i < j ∧ j = i + 1 ∧ m + 1 = lc.length ∧ i ≤ lc.length ∧ i + 1 ≤ lc.length ∧ m + 1 ≤ cap) := Lib.hid ⟨by omega, by omega, hij, hl, by omega, by omega, by omega⟩
  have hD : ∀ W2, Grew w W2 → RowsAt 13 encNd W2 (.slice (if cap = j then some ⟨b, 0, none⟩ else some ⟨b, j * 13, none⟩) (m + 1 - j) (cap - j)) (lc.drop (i + 1)) := fun W2 g => rows_dropIf (HR.out.grew g) (by omega) (by omega) (by omega) hij
  have HD := Lib.hid hD
  clear hl hij hR2 hR3 hD
  go_enter Tryz.func160, Tryz.ntmps160
  go_upto_region 5 with fail
  go_cut [0] (fun s0 wx => s0 = .slice (some ⟨b, 0, none⟩) m cap ∧ OwnAt w0.heap.size 56 13 encNd wx (.slice (some ⟨b, 0, none⟩) m cap) (lc.take i ++ lc.drop (i + 1)) ∧ Grew w0 wx ∧ Keep b w wx)
  case first =>
    refine wp_region_noPanic ?_
    go_region_law (refine if_wantedP (wanted_noneP rfl) ?_; apply wp_ownF (base := w0.heap.size) (l := lc.take i) (l2 := lc.drop (i + 1)) (vx := .slice (if cap = j then some ⟨b, 0, none⟩ else some ⟨b, j * 13, none⟩) (m + 1 - j) (cap - j)) (s := .tmp 22) (x := .tmp 25) (t := 22) (r := m) (ho := rfl) (ht := Tryz.underlying22) (hinfo := infoNdP) (henc := encNd_len) (hone := encNd_oneP) (hs := rfl) (hx := rfl); (case hn => exact HR2.out.symm); (case hown => first | exact HCUT.out.grew (by repeat (first | with_reducible exact Grew.refl _ | apply Grew.more | apply Grew.alloc | apply Grew.drew | apply Grew.drewN)) | fail "O1"); (case hrows => first | exact HD.out _ (by repeat (first | with_reducible exact Grew.refl _ | apply Grew.more | apply Grew.alloc | apply Grew.drew | apply Grew.drewN)) | fail "R1"); (case hnil => (obtain ⟨ad, c, e⟩ := ite_some b j cap (m + 1 - j); exact ⟨ad, c, e.trans (by rw [HR3.out])⟩)); (case hroom => have := HJ.out; omega); (case hr => rw [HR2.out, HR3.out]; have := HJ.out; omega); intro W7 hA hB; (have HA7 := Lib.hid hA); (have HB7 := Lib.hid hB); clear hA hB)
    all_goals
      refine NoPanic.normal ?_
      generalize (if cap = j then some (⟨b, 0, none⟩ : Addr) else some ⟨b, j * 13, none⟩) = zz
      go_wp2
      go_meet
      exact ⟨rfl, HA7.out, (HG.out.trans (by repeat (first | with_reducible exact Grew.refl _ | apply Grew.more | apply Grew.alloc | apply Grew.drew | apply Grew.drewN))).grown HB7.out (fun q hq => by cases hq; exact HBB.out), ⟨HB7.out.size, fun q hq hn => HB7.out.block q hq fun e => hn (Option.some.inj e)⟩⟩
  obtain ⟨rfl, ho5, hg5, hk5⟩ := hcut
  obtain ⟨-, -, -, -, cur5, hh5, hs5, -⟩ := OwnAt.cells ho5
  have HO5 := Lib.hid ho5
  have HG5 := Lib.hid hg5
  have HK5 := Lib.hid hk5
  have HH5 := Lib.hid hh5
  have HS5 : Hid (m * 13 + (Builtin.zeroCells zNdP.cells 1).size ≤ cur5.size) := Lib.hid (by rw [zc13, hs5]; have := HJ.out; omega)
  have HLM : Hid ((lc.take i ++ lc.drop (i + 1)).length = m) := Lib.hid (by rw [List.length_append, List.length_take, List.length_drop]; have := HJ.out; omega)
  have hcm3 : (m : Int) + 1 ≤ (cap : Int) := by have := HJ.out; omega
  clear ho5 hg5 hk5 hh5 hs5
  have hcl := run_clear_rows (P := Tryz.prog) wc 22 56 0 zNdP Tryz.underlying22 Tryz.zeroValue56 b (m * 13) 1 (cap - m) (by decide) cur5 HH5.out HS5.out zc_one
  obtain ⟨cur8, hc8⟩ : ∃ cur8 : Array Value, cur8 = (cur5.toList.take (m * 13) ++ (Builtin.zeroCells zNdP.cells 1).toList ++ cur5.toList.drop (m * 13 + (Builtin.zeroCells zNdP.cells 1).size)).toArray := ⟨_, rfl⟩
  rw [← hc8] at hcl
  have HS8 : Hid (cur8.size = cur5.size) := Lib.hid (by have := HS5.out; rw [zc13] at this; rw [hc8]; simp [zc13]; omega)
  have HL8 : Hid (∀ i, i < m * 13 → cur8[i]? = cur5[i]?) := Lib.hid fun q hq => by
    have h3 : q < (cur5.toList.take (m * 13)).length := by have := HS5.out; rw [List.length_take, Array.length_toList]; omega
    rw [hc8, List.getElem?_toArray, List.append_assoc, List.getElem?_append_left h3, List.getElem?_take, if_pos hq]
    simp
  have HH8 : Hid ((wc.setRow b cur8).heap[b]? = some (.cells cur8 56)) := Lib.hid (setRow_heap wc b cur5 _ _ _ HH5.out)
  have HT8 : Hid (∀ q, q ≠ b → (wc.setRow b cur8).heap[q]? = wc.heap[q]?) := Lib.hid fun q hq => setRow_other wc b q _ hq
  have HZ8 : Hid ((wc.setRow b cur8).heap.size = wc.heap.size) := Lib.hid (setRow_size wc b _)
  have HG8 : Hid (Grew w0 (wc.setRow b cur8)) := Lib.hid (Grew.ofBelow (below_setRow HG5.out.below HBB.out _))
  clear hc8
  generalize wc.setRow b cur8 = W8 at *
  go_wp2
  go_ret
  exact ⟨rfl, OwnAt.past encNd_len HO5.out HH5.out HH8.out HS8.out (fun q hq => HL8.out q (by rw [HLM.out] at hq; exact hq)), HG8.out, ⟨by rw [HZ8.out]; exact HK5.out.1, fun q hq hn => by rw [HT8.out q hn]; exact HK5.out.2 q hq hn⟩⟩
end Go.Proofs.YtpbohimddmploaaGreat
namespace Go.Proofs.YtpbohimddmploaaGreat
open Go.RowKit Ga

def kidB (l : List Gr.Nd) (x : Int) : Bool := l.any fun m => decide (x ∈ m.frm)
theorem kidB_succ {l : List Gr.Nd} {x : Int} {k : Nat} (hk : k < l.length) : kidB (l.take (k + 1)) x = (kidB (l.take k) x || decide (x ∈ l[k].frm)) := by
  unfold kidB
  rw [List.take_succ_eq_append_getElem hk, List.any_append]
  simp
def KidPost (l : List Gr.Nd) (x : Int) (w : World) (e : Ending) (w' : World) : Prop := ∃ a n c, e = .returned (.slice a n c) ∧ (n = 0 ↔ kidB l x = false) ∧ n ≤ 1000 ∧ Grew w w'
theorem infoI_P : (Tryz.prog.info? 3).map (fun i => (i.zero, i.size, i.bytes)) = some (some (.int .i64 0), 1, 8) := by kernel_rfl
theorem encN_oneP (x : Int) : ∀ u ∈ encN x, u.oneCell' = true := by intro u hu; simp [encN] at hu; subst hu; rfl
theorem int_atP (W : World) (x : Int) (t : TypeId) (b : Nat) {c : Array Value} (hc : c = #[.int .i64 x]) (hb : b = W.heap.size) : ∀ j u, (([x] : List Int).flatMap encN)[j]? = some u → (W.alloc (.cells c t)).cell? ⟨b, j, none⟩ = some u := by
  subst hc
  intro j u hu
  rw [cell_of (heap_new_at W _ b hb)]
  simpa [encN] using hu
theorem children_any (v : Value) (l : List Gr.Nd) (x : Int) (w : World) (hv : NodesAt w v l) (hl : l.length ≤ 100) : Calls Tryz.prog 159 #[v, .int .i64 x] w (KidPost l x w) := by
  have HV := Lib.hid hv
  obtain ⟨a, cap, rfl, hm, -⟩ := hv.openC
  clear hv
  go_enter Tryz.func159, Tryz.ntmps159
  go_wp2
  go_loopg [5, 10] l.length (fun gg s5 s10 wr => ∃ (k : Nat) (out : List Int), k ≤ l.length ∧ l.length - k ≤ gg ∧ s10 = .int .i64 k ∧ out.length ≤ k ∧ Hid (out.length = 0 ↔ kidB (l.take k) x = false) ∧ Hid (Grew w wr) ∧ Hid (OwnAt w.heap.size 3 1 encN wr s5 out))
  case atStart => exact ⟨0, [], by omega, by omega, rfl, by simp, Lib.hid (by simp [kidB]), Lib.hid (Grew.refl _), Lib.hid (OwnAt.nil _)⟩
  case round =>
    obtain ⟨k, out, hk, hgg, rfl, hol, HK, HG, HO⟩ := hrel
    rename World => wa
    by_cases hlt : k < l.length
    · obtain ⟨a', cap', e, -, hx⟩ := (HV.out.grew HG.out).openC
      cases e
      obtain ⟨b, off, c, rfl, hb, hn, c0, c1, c2, c3, c4, c5, c6, c7, c8, c9, c10, c11, c12⟩ := hx k hlt
      have hsuc := kidB_succ (x := x) hlt
      have HC := Lib.hid fun W2 (g : Grew wa W2) => containsI_any _ _ x W2 (hn.f.grew g)
      have HC2 := Lib.hid fun W2 (g : Grew wa W2) y => containsI_any _ _ y W2 ((OwnAt.rows HO.out encN_len).grew g)
      obtain ⟨a5, c5', rfl⟩ := (OwnAt.rows HO.out encN_len).len
      generalize l[k] = n at *
      clear hx hn
      obtain ⟨cid, kind, af, nf, cf, ap, np, cp, par, r0, r1, r2, r3, r4, r5, r6, r7⟩ := c
      simp only at c0 c1 c2 c3 c4 c5 c6 c7 c8 c9 c10 c11 c12 HC
      cases hx1 : decide (x ∈ n.frm)
      · rw [hx1] at HC hsuc
        rw [Bool.or_false] at hsuc
        have HS := Lib.hid hsuc
        clear hx1 hsuc
        go_wp2_with (go_at_call 33; refine (HC.out _ (by repeat (first | with_reducible exact Grew.refl _ | apply Grew.more | apply Grew.alloc | apply Grew.drew | apply Grew.drewN))).mono ?_; rintro e w1 ⟨rfl, hw1⟩; obtain rfl := hw1)
        go_roundg (l.length - (k + 1))
        case measure => omega
        case rel => exact ⟨k + 1, out, by omega, by omega, by go_num, by omega, Lib.hid (by rw [HS.out]; exact HK.out), Lib.hid (HG.out.trans (by repeat (first | with_reducible exact Grew.refl _ | apply Grew.more | apply Grew.alloc | apply Grew.drew | apply Grew.drewN))), Lib.hid (OwnAt.grew HO.out (by repeat (first | with_reducible exact Grew.refl _ | apply Grew.more | apply Grew.alloc | apply Grew.drew | apply Grew.drewN)))⟩
      · rw [hx1] at HC hsuc
        rw [Bool.or_true] at hsuc
        have HS := Lib.hid hsuc
        have HC3 := Lib.hid fun W2 (g : Grew wa W2) => HC2.out W2 g cid
        cases hx2 : decide (cid ∈ out)
        · rw [hx2] at HC3
          clear hx1 hx2 hsuc
          go_wp2_with (first
            | (go_at_call 33; refine (HC.out _ (by repeat (first | with_reducible exact Grew.refl _ | apply Grew.more | apply Grew.alloc | apply Grew.drew | apply Grew.drewN))).mono ?_; rintro e w1 ⟨rfl, hw1⟩; obtain rfl := hw1)
            | (go_at_call 33; refine (HC3.out _ (by repeat (first | with_reducible exact Grew.refl _ | apply Grew.more | apply Grew.alloc | apply Grew.drew | apply Grew.drewN))).mono ?_; rintro e w1 ⟨rfl, hw1⟩; obtain rfl := hw1)
            | (at_builtin; go_loud (refine wpList_ownK (w0 := w) rfl (.tmp 25) (.tmp 28) 47 _ _ _ _ [cid] rfl Tryz.underlying47 infoI_P rfl (by decide) encN_len encN_oneP rfl (OwnAt.grew HO.out (by repeat (first | with_reducible exact Grew.refl _ | apply Grew.more | apply Grew.alloc | apply Grew.drew | apply Grew.drewN))) (HG.out.trans (by repeat (first | with_reducible exact Grew.refl _ | apply Grew.more | apply Grew.alloc | apply Grew.drew | apply Grew.drewN))) rfl (int_atP _ _ _ _ rfl (by simp [go_sem])) (by simp; omega) (by decide) (by simp) ?_); intro v7 W7 hA; (have HA7 := Lib.hid hA); clear hA))
          go_roundg (l.length - (k + 1))
          case measure => omega
          case rel => exact ⟨k + 1, out ++ [cid], by omega, by omega, by go_num, by simp; omega, Lib.hid (by rw [HS.out]; simp), Lib.hid HA7.out.1, Lib.hid HA7.out.2.1⟩
        · rw [hx2] at HC3
          have hne : out.length ≠ 0 := fun q => by
            rw [List.eq_nil_of_length_eq_zero q] at hx2
            simp at hx2
          have HNE := Lib.hid hne
          clear hx1 hx2 hsuc hne
          go_wp2_with (first
            | (go_at_call 33; refine (HC.out _ (by repeat (first | with_reducible exact Grew.refl _ | apply Grew.more | apply Grew.alloc | apply Grew.drew | apply Grew.drewN))).mono ?_; rintro e w1 ⟨rfl, hw1⟩; obtain rfl := hw1)
            | (go_at_call 33; refine (HC3.out _ (by repeat (first | with_reducible exact Grew.refl _ | apply Grew.more | apply Grew.alloc | apply Grew.drew | apply Grew.drewN))).mono ?_; rintro e w1 ⟨rfl, hw1⟩; obtain rfl := hw1))
          go_roundg (l.length - (k + 1))
          case measure => omega
          case rel => exact ⟨k + 1, out, by omega, by omega, by go_num, by omega, Lib.hid (by rw [HS.out]; exact ⟨fun q => absurd q HNE.out, fun q => by cases q⟩), Lib.hid (HG.out.trans (by repeat (first | with_reducible exact Grew.refl _ | apply Grew.more | apply Grew.alloc | apply Grew.drew | apply Grew.drewN))), Lib.hid (OwnAt.grew HO.out (by repeat (first | with_reducible exact Grew.refl _ | apply Grew.more | apply Grew.alloc | apply Grew.drew | apply Grew.drewN)))⟩
    · obtain rfl : k = l.length := by omega
      have hk9 := HK.out
      rw [List.take_length] at hk9
      have HK9 := Lib.hid hk9
      clear hk9
      rcases HO.out.form with ⟨rfl, rfl⟩ | ⟨b5, c5, rfl, hb5, hlc, hcm⟩
      · go_wp2_with (go_at_call 84; refine (Tryz.slices_Sort_int_none _ _ _).mono ?_; rintro e w1 ⟨rfl, hw1⟩; obtain rfl := hw1)
        go_ret
        exact ⟨_, _, _, rfl, HK9.out, by omega, HG.out.trans (by repeat (first | with_reducible exact Grew.refl _ | apply Grew.more | apply Grew.alloc | apply Grew.drew | apply Grew.drewN))⟩
      · obtain ⟨hh1, hc1, hb1, hb2⟩ := own_holds HO.out
        have HH1 := Lib.hid hh1
        have hg1 : ∀ n os, Grew w (Sort.grow (Sort.putRow (Value.int .i64) (Sort.ahead wa n) b5 0 (sortI out).toArray) os) := fun n os => grewOs (grewRow (grewAhead HG.out n) hb1) os
        have HGS := Lib.hid hg1
        clear hh1 hg1
        go_wp2_with (go_at_call 84; go_loud (refine (Tryz.slices_Sort_int b5 0 c5 out _ HH1.out hb2 (by omega)).mono ?_; rintro e w2 ⟨rfl, n2, os2, hw2⟩; (have hg2 : Grew w w2 := by rw [hw2]; exact HGS.out n2 os2); (have HG2 := Lib.hid hg2); clear hg2 hw2))
        go_ret
        exact ⟨_, _, _, rfl, HK9.out, by omega, HG2.out⟩
end Go.Proofs.YtpbohimddmploaaGreat
