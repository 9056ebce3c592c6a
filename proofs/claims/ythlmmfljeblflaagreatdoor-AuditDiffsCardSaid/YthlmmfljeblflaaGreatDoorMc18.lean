import Derived.Test.YthlmmfljeblflaaGreatDoorMc12
import Derived.Test.YthlmmfljeblflaaGreatDoorMc11
import Derived.Test.YthlmmfljeblflaaGreatDoorMc13
import Derived.Deep.RegionHeld3
import Derived.Test.YthlmmfljeblflaaGreatDoorMc9
import Derived.Test.YthlmmfljeblflaaGreatDoorMc15
import Derived.Test.YthlmmfljeblflaaGreatDoorMc5
/-! lines: the words of the document's example. -/
namespace Go.Proofs.YthlmmfljeblflaaGreatDoor
set_option linter.unusedSimpArgs false
set_option linter.unusedVariables false
open Go.RowKit Ga
set_option maxRecDepth 100000

/-- what the walks of texts ask of the library's variables -/
structure Env27 (w : World) : Prop where
  m : CellM w
  e : Errs w
  p : Pow w
  a : Asc w
theorem Env27.grew {w w' : World} (h : Env27 w) (g : Grew w w') : Env27 w' := ⟨h.m.grew g, h.e.grew g, h.p.grew g, h.a.grew g⟩
theorem strs_open {base : Nat} {w : World} {v : Value} {xs : List (List UInt8)} (h : OwnAt base 9 1 encS w v xs) (hne : xs ≠ []) : ∃ b cap, v = .slice (some ⟨b, 0, none⟩) xs.length cap ∧ Pre b w ∧ ∀ i (hi : i < xs.length), w.cell? ⟨b, i, none⟩ = some (.string ⟨xs[i].toArray⟩) := by
  have hr := h.rows encS_len
  rcases h.form with ⟨-, e⟩ | ⟨b, cap, rfl, -⟩
  · exact absurd e hne
  obtain ⟨a', c', e, -, hx⟩ := hr
  cases e
  obtain ⟨b', off, e2, hc⟩ := hx hne
  cases e2
  have h1 : ∀ i (hi : i < xs.length), w.cell? ⟨b, i, none⟩ = some (.string ⟨xs[i].toArray⟩) := fun i hi => by
    have := hc i xs[i] (List.getElem?_eq_getElem hi) 0 _ rfl
    simpa using this
  refine ⟨b, cap, rfl, ?_, h1⟩
  exact Pre.ofCell (h1 0 (by cases xs with | nil => exact absurd rfl hne | cons => simp))
end Go.Proofs.YthlmmfljeblflaaGreatDoor

/-! lines: the parser at the document's example. -/
namespace Go.Proofs.YthlmmfljeblflaaGreatDoor
set_option linter.unusedSimpArgs false
set_option linter.unusedVariables false
open Go.RowKit Ga
set_option maxRecDepth 100000

theorem encN_1 (x : Int) : ∀ u ∈ encN x, u.oneCell' = true := by intro u hu; simp [encN] at hu; subst hu; rfl
theorem infoI_1 : (Tryz.prog.info? 3).map (fun i => (i.zero, i.size, i.bytes)) = some (some (.int .i64 0), 1, 8) := by kernel_rfl
theorem int_at1 (W : World) (x : Int) (t : TypeId) (b : Nat) {c : Array Value} (hc : c = (encN x).toArray) (hb : b = W.heap.size) : ∀ j u, (([x] : List Int).flatMap encN)[j]? = some u → (W.alloc (.cells c t)).cell? ⟨b, j, none⟩ = some u := by
  subst hc
  intro j u hu
  rw [new_cells W _ t b hb j]
  simpa using hu
end Go.Proofs.YthlmmfljeblflaaGreatDoor

/-! lines: the parser at the document's example: a step. -/
namespace Go.Proofs.YthlmmfljeblflaaGreatDoor
set_option linter.unusedSimpArgs false
set_option linter.unusedVariables false
open Go.RowKit Ga
set_option maxRecDepth 100000

def N2 : Gr.Nd := ⟨2, 2, [0], [], 1, List.replicate 8 0⟩
def S2 : Gr.Stp := ⟨2, N2, false⟩
end Go.Proofs.YthlmmfljeblflaaGreatDoor

/-! audit.numbers. -/
namespace Go.Proofs.YthlmmfljeblflaaGreatDoor
set_option linter.unusedSimpArgs false
set_option linter.unusedVariables false
open Go.RowKit Ga
set_option maxRecDepth 100000

theorem rows13_open {w : World} {v : Value} {l : List NdC} (h : RowsAt 13 encNd w v l) : ∃ a cap, v = .slice a l.length cap ∧ l.length ≤ 9223372036854775807 ∧ ∀ i (hi : i < l.length), ∃ b off, a = some ⟨b, off, none⟩ ∧ Pre b w ∧
    w.cell? ⟨b, off + i * 13, none⟩ = some (.int .i64 l[i].id) ∧ w.cell? ⟨b, off + i * 13 + 1, none⟩ = some (.int .i64 l[i].kind) ∧ w.cell? ⟨b, off + i * 13 + 2, none⟩ = some (.slice l[i].af l[i].nf l[i].cf) ∧ w.cell? ⟨b, off + i * 13 + 3, none⟩ = some (.slice l[i].ap l[i].np l[i].cp) ∧ w.cell? ⟨b, off + i * 13 + 4, none⟩ = some (.int .i64 l[i].par) ∧
    w.cell? ⟨b, off + i * 13 + 5, none⟩ = some (.int .i64 l[i].r0) ∧ w.cell? ⟨b, off + i * 13 + 6, none⟩ = some (.int .i64 l[i].r1) ∧ w.cell? ⟨b, off + i * 13 + 7, none⟩ = some (.int .i64 l[i].r2) ∧ w.cell? ⟨b, off + i * 13 + 8, none⟩ = some (.int .i64 l[i].r3) ∧ w.cell? ⟨b, off + i * 13 + 9, none⟩ = some (.int .i64 l[i].r4) ∧ w.cell? ⟨b, off + i * 13 + 10, none⟩ = some (.int .i64 l[i].r5) ∧ w.cell? ⟨b, off + i * 13 + 11, none⟩ = some (.int .i64 l[i].r6) ∧ w.cell? ⟨b, off + i * 13 + 12, none⟩ = some (.int .i64 l[i].r7) := by
  obtain ⟨a, cap, rfl, hm, hx⟩ := h
  refine ⟨a, cap, rfl, by unfold maxLen at hm; omega, fun i hi => ?_⟩
  obtain ⟨b, off, rfl, hc⟩ := hx (by intro e; subst e; simp at hi)
  have hj := fun j u => hc i l[i] (List.getElem?_eq_getElem hi) j u
  have h0 := hj 0 _ rfl
  exact ⟨b, off, rfl, Pre.ofCell h0, h0, hj 1 _ rfl, hj 2 _ rfl, hj 3 _ rfl, hj 4 _ rfl, hj 5 _ rfl, hj 6 _ rfl, hj 7 _ rfl, hj 8 _ rfl, hj 9 _ rfl, hj 10 _ rfl, hj 11 _ rfl, hj 12 _ rfl⟩
/-- the numbers, rising, each once -/
def idsN (l : List Int) : List Int := Lib.compact (sortI l)
theorem idsN_len (l : List Int) : (idsN l).length ≤ l.length := Nat.le_trans (Lib.compact_length_le _) (by rw [sortI_len]; exact Nat.le_refl _)
theorem idsN_nil : idsN [] = [] := List.eq_nil_of_length_eq_zero (by have := idsN_len []; simp at this; simp [this])
theorem ints_holds {w : World} {b cap : Nat} {l r : List Int} (h : Sort.Holds (Value.int .i64) w b 0 (l ++ r).toArray) (hm : l.length ≤ 1000000) : IntsAt w (.slice (some ⟨b, 0, none⟩) l.length cap) l := by
  refine ⟨_, cap, rfl, by unfold maxLen; omega, fun _ => ⟨b, 0, rfl, fun i x hi j u hu => ?_⟩⟩
  have hlt : i < l.length := (List.getElem?_eq_some_iff.1 hi).1
  have hx : l[i] = x := (List.getElem?_eq_some_iff.1 hi).2
  obtain ⟨h1, -⟩ := h i (by simp; omega)
  have e1 : (l ++ r).toArray[i]! = x := by
    rw [getElem!_pos _ i (by simp; omega)]
    simp [List.getElem_append_left hlt, hx]
  rw [e1] at h1
  match j with
  | 0 =>
    have hu' : Value.int .i64 x = u := Option.some.inj hu
    subst hu'
    simpa using h1
  | j + 1 => simp at hu
set_option maxHeartbeats 16000000 in
theorem numbers_any (aa ab : Option Addr) (ca cb : Nat) (la lb : List NdC) (w : World) (ra : RowsAt 13 encNd w (.slice aa la.length ca) la) (rb : RowsAt 13 encNd w (.slice ab lb.length cb) lb) (na : NilOr (.slice aa la.length ca) la.length) (nb : NilOr (.slice ab lb.length cb) lb.length) (hla : la.length ≤ 100) (hlb : lb.length ≤ 100) :
    Calls Tryz.prog 37 #[.slice aa la.length ca, .slice ab lb.length cb] w (fun e w' => ∃ v, e = .returned v ∧ IntsAt w' v (idsN ((la ++ lb).map (·.id))) ∧ Grew w w') := by
  have HC := Lib.hid fun B W (q : Grew w W) hB => concat_any B aa ab ca cb la lb W hB (ra.grew q) (rb.grew q) na nb hla hlb
  clear ra rb na nb
  go_enter Tryz.func37, Tryz.ntmps37
  go_wp2_with fail
  refine (HC.out _ _ (by repeat (first | with_reducible exact Grew.refl _ | apply Grew.more | apply Grew.alloc | apply Grew.drew | apply Grew.drewN)) (heap_new_at w _ _ (by simp [go_sem]))).mono ?_
  rintro e w1 ⟨v1, rfl, ho, R1, n1, rfl⟩
  have hl : (la ++ lb).length ≤ 200 := by simp; omega
  obtain ⟨l, hl0⟩ : ∃ l, la ++ lb = l := ⟨_, rfl⟩
  rw [hl0] at ho hl
  have HLL := Lib.hid hl0
  clear hl0
  obtain ⟨a1, c1, rfl⟩ := (OwnAt.rows ho encNd_lenA).len
  have HL := Lib.hid (OwnAt.rows ho encNd_lenA)
  have hgw : Hid (Grew w ((w.alloc (.cells #[.slice aa la.length ca, .slice ab lb.length cb] 30)).more R1 n1)) := Lib.hid (by repeat (first | with_reducible exact Grew.refl _ | apply Grew.more | apply Grew.alloc | apply Grew.drew | apply Grew.drewN))
  clear ho
  generalize (w.alloc (.cells #[.slice aa la.length ca, .slice ab lb.length cb] 30)).more R1 n1 = wx at *
  go_wp2
  go_loopg [5, 13] l.length (fun gg s5 s13 wr => ∃ k : Nat, k ≤ l.length ∧ l.length - k ≤ gg ∧ s13 = .int .i64 k ∧ Hid (Grew wx wr) ∧ Hid (OwnAt wx.heap.size 3 1 encN wr s5 ((l.take k).map (·.id))))
  case atStart => exact ⟨0, by omega, by omega, rfl, Lib.hid (Grew.refl _), Lib.hid (OwnAt.nil _)⟩
  case round =>
    obtain ⟨k, hk, hgg, rfl, HG, HO⟩ := hrel
    rename World => wa
    by_cases hlt : k < l.length
    · obtain ⟨a', cap', e, -, hx⟩ := rows13_open (HL.out.grew HG.out)
      injection e with e1 e2 e3
      obtain ⟨b, off, ha, pb, d0, d1, d2, d3, d4, d5, d6, d7, d8, d9, d10, d11, d12⟩ := hx k hlt
      obtain rfl : a1 = some ⟨b, off, none⟩ := e1.trans ha
      have HTK := Lib.hid (show (l.take (k + 1)).map (·.id) = (l.take k).map (·.id) ++ [l[k].id] by rw [List.take_succ_eq_append_getElem hlt, List.map_append]; rfl)
      have hln : ((l.take k).map (·.id)).length ≤ 200 := by rw [List.length_map, List.length_take]; omega
      clear hx e1 e2 e3 ha
      generalize l[k] = y at *
      generalize (l.take k).map (·.id) = is at *
      go_wp2_with (at_builtin; go_loud (refine wpList_ownK (w0 := wx) rfl (.tmp 17) (.tmp 20) 29 _ _ _ _ [y.id] rfl Tryz.underlying29 infoI_1 rfl (by decide) encN_len encN_1 rfl (OwnAt.grew HO.out (by repeat (first | with_reducible exact Grew.refl _ | apply Grew.more | apply Grew.alloc | apply Grew.drew | apply Grew.drewN))) (HG.out.trans (by repeat (first | with_reducible exact Grew.refl _ | apply Grew.more | apply Grew.alloc | apply Grew.drew | apply Grew.drewN))) rfl (int_at1 _ _ _ _ rfl (by simp [go_sem])) (by simp; omega) (by decide) (by simp) ?_); intro v7 W7 hA; (have HA7 := Lib.hid hA); clear hA)
      go_roundg (l.length - (k + 1))
      case measure => omega
      case rel => exact ⟨k + 1, by omega, by omega, by go_num, Lib.hid HA7.out.1, Lib.hid (by rw [HTK.out]; exact HA7.out.2.1)⟩
    · obtain rfl : k = l.length := by omega
      rw [List.take_length] at HO
      have hil : (l.map (·.id)).length ≤ 200 := by rw [List.length_map]; exact hl
      obtain ⟨ids, hids⟩ : ∃ ids, l.map (·.id) = ids := ⟨_, rfl⟩
      rw [hids] at HO hil
      have HIDS := Lib.hid hids
      clear hids
      by_cases h0 : ids = []
      · subst h0
        obtain ⟨a9, c9, hv9⟩ := (OwnAt.rows HO.out encN_len).len
        have hv9' : _ = Value.slice a9 0 c9 := hv9
        subst hv9'
        go_wp2_with (first
          | (go_at_call 70; refine (Tryz.slices_Sort_int_none _ _ _).mono ?_; rintro e w1 ⟨rfl, hw1⟩; obtain rfl := hw1)
          | (go_at_call 71; refine (Tryz.slices_Compact_int_empty _ _ _).mono ?_; rintro e w1 ⟨rfl, hw1⟩; obtain rfl := hw1))
        go_ret
        exact ⟨_, rfl, by rw [HLL.out, HIDS.out, idsN_nil]; exact ⟨a9, c9, rfl, Nat.zero_le _, fun q => absurd rfl q⟩, hgw.out.trans HG.out⟩
      · have hpos : 0 < ids.length := List.length_pos_iff.2 h0
        obtain ⟨b1, c1', hv9⟩ := own_some' HO.out hpos
        subst hv9
        obtain ⟨hh1, hc1, hb1, hb2⟩ := own_holds HO.out
        have HH1 := Lib.hid hh1
        have hbw : w.heap.size ≤ b1 := Nat.le_trans hgw.out.below.size hb1
        have HG1 := Lib.hid (hgw.out.trans HG.out)
        have hcl : (Lib.compact (sortI ids)).length ≤ 200 := Nat.le_trans (idsN_len ids) hil
        have hsl := sortI_len ids
        clear hh1 h0 HO
        go_wp2_with (first
          | (go_at_call 70; go_loud (refine (Tryz.slices_Sort_int b1 0 c1' ids _ HH1.out hb2 (by omega)).mono ?_; rintro e w2 ⟨rfl, n2, os2, hw2⟩; (have hh2 : Sort.Holds (Value.int .i64) w2 b1 0 (sortI ids).toArray := by rw [hw2]; exact Sort.holds_grow _ _ _ _ _ _ (by rw [Sort.size_putRow]; exact hb2) (Sort.holds_putRow _ _ _ _ _ _ (Sort.holds_ahead _ _ _ _ _ _ HH1.out) (by simp [sortI]))); (have hg2 : Grew w w2 := by rw [hw2]; exact grewOs (grewRow (grewAhead HG1.out _) hbw) _); (have HH2 := Lib.hid hh2); (have HG2 := Lib.hid hg2); clear hh2 hg2 hw2))
          | fail)
        have hc3 := Tryz.slices_Compact_int b1 0 c1' (sortI ids) w2 HH2.out (by omega) (by omega)
        rw [hsl] at hc3
        refine hc3.mono ?_
        rintro e w3 ⟨rfl, n3, hw3⟩
        have hg3 : Grew w w3 := by rw [hw3]; exact grewRow (grewAhead HG2.out _) hbw
        have hh3 : Sort.Holds (Value.int .i64) w3 b1 0 (Lib.compact (sortI ids) ++ List.replicate (ids.length - (Lib.compact (sortI ids)).length) 0).toArray := by
          rw [hw3]
          exact Sort.holds_putRow _ _ _ _ _ _ (Sort.holds_ahead _ _ _ _ _ _ HH2.out) (by simp [hsl]; have := idsN_len ids; unfold idsN at this; omega)
        have HG3 := Lib.hid hg3
        have HH3 := Lib.hid hh3
        clear hg3 hw3 hc3 hh3
        go_wp2_with fail
        go_ret
        exact ⟨_, rfl, by rw [HLL.out, HIDS.out]; exact ints_holds HH3.out (by omega), HG3.out⟩
end Go.Proofs.YthlmmfljeblflaaGreatDoor

/-! What the listed variables of layers 27 and 28 give the walks. -/
namespace Go.Proofs.YthlmmfljeblflaaGreatDoor
set_option linter.unusedSimpArgs false
set_option linter.unusedVariables false
open Go.RowKit Go.Lib
set_option maxRecDepth 100000

theorem ascIs : (Rows.laid_strings_asciiSpace : DataW Unit) = tabData .u8 Lib.asciiSpaceTab := by kernel_rfl
theorem gAsc : Tryz.prog.globalNamed "strings.asciiSpace" = some 4 := by kernel_rfl
theorem gAscType : (Tryz.prog.globals[4]?).map (·.type) = some 208 := by kernel_rfl
theorem cells256 : Tryz.prog.cellsOf 208 = 256 := by kernel_rfl
theorem cellsU8 : Tryz.prog.cellsOf 5 = 1 := by kernel_rfl
theorem asc_of {W : World} {l : List (String × DataW Unit)} (h : laidMet Tryz.prog l W) (hm : ("strings.asciiSpace", Rows.laid_strings_asciiSpace) ∈ l) : Asc W := by
  rw [ascIs] at hm
  exact tab_of_reads gAsc gAscType Tryz.underlying208 Tryz.underlying5 cellsU8 cells256 (laidMet.reads h hm)
theorem cellM_of {W : World} (h : W.ShapedOpen Tryz.prog) : CellM W := Tryz.laysM145.s1_3 W h
/-- What LinesTell's row lists. -/
theorem env27_of {W : World} (h : laidMet Tryz.prog Rows.linesTellRow.laid W) (hs : W.ShapedOpen Tryz.prog) : Env27 W :=
  ⟨cellM_of hs, errs_of (laidMet.tail (laidMet.tail (laidMet.tail (laidMet.tail h)))) (laidMet.tail (laidMet.tail (laidMet.tail (laidMet.tail (laidMet.tail h))))), pow_of h (.tail _ (.tail _ (.head _))), asc_of h (.tail _ (.tail _ (.tail _ (.tail _ (.tail _ (.tail _ (.tail _ (.head _))))))))⟩
/-- A witness: the table of white space. -/
noncomputable def layWhite (w : World) : World :=
  layBlocks ((w.alloc (.cells ((whiteT.map fun n : Nat => Value.int .u16 (n : Int)).toArray) 255)).alloc (.cells #[.slice (some ⟨w.heap.size, 0, none⟩) 7 7, .slice none 0 0, .int .i64 2] 252))
    [(7, #[.pointer (some ⟨w.heap.size + 1, 0, none⟩)])]
noncomputable def laidWorld27 (os : Os) : World := layWhite (layErrs (layBlocks (World.holding Tryz.prog os ⟨#[], #[], []⟩) [(8, tabCells Rows.laid_math_bits_deBruijn32tab), (9, tabCells Rows.laid_math_bits_deBruijn64tab), (0, tabCells Rows.laid_internal_strconv_uint64pow10), (6, tabCells2 Rows.laid_unicode_utf8_acceptRanges), (5, tabCells Rows.laid_unicode_utf8_first), (4, tabCells Rows.laid_strings_asciiSpace)]))
end Go.Proofs.YthlmmfljeblflaaGreatDoor
