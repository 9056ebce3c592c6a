import Derived.Test.YtiocdmfmghanmaaGreatDoorVmCheck5
import Derived.Test.YtiocdmfmghanmaaGreatDoorCodeParse
import Derived.Test.YtiocdmfmghanmaaGreatDoorVmTrimMath
import Derived.OwnWalk
/-! check.over, lives, Trim. -/
namespace Go.Proofs.YtiocdmfmghanmaaGreatDoor
set_option linter.unusedSimpArgs false
set_option linter.unusedVariables false
open Go.RowKit Ga
set_option maxRecDepth 100000

def bools (l : List Bool) : Array Value := (l.map fun b => Value.bool b).toArray
theorem bools_get (l : List Bool) (k : Nat) (h : k < l.length) : (bools l)[k]? = some (.bool (l.getD k false)) := by
  unfold bools
  simp [List.getD_eq_getElem?_getD, List.getElem?_eq_getElem h]
theorem bools_set (l : List Bool) (k : Nat) (b : Bool) : (bools l).setIfInBounds k (.bool b) = bools (l.set k b) := by
  unfold bools
  simp [List.map_set]

set_option maxHeartbeats 4000000 in
theorem over_any (st : List Bool) (j far : Nat) (hj : j < st.length) (hst : st.length ≤ 24) (hfar : far ≤ 100) (g n c : Nat) (hn : n = st.length) (w : World) (h : w.heap[g]? = some (.cells (bools st) 4)) :
    Calls Tryz.prog 31 #[.slice (some ⟨g, 0, none⟩) n c, .int .i64 j, .int .i64 far] w fun e w' => e = .returned (.int .i64 ((((st.drop (j + 1)).take far).count true : Nat) : Int)) ∧ w = w' := by
  subst hn
  rw [Vm.over_eq]
  have hmn := run_min Tryz.prog
  have hp := Pre.mk (heap_lt h)
  have H := Lib.hid h
  clear h
  go_enter Tryz.func31, Tryz.ntmps31
  go_wp2
  go_loopw [7, 8] (fun m i wr => ∃ (k : Nat), j + 1 ≤ k ∧ k ≤ max (j + 1) (min (j + 1 + far) st.length) ∧ i = .int .i64 k ∧ m = .int .i64 ((Vm.pos st k - Vm.pos st (j + 1) : Nat) : Int) ∧ wr = w) (fun _ i _ => 1000 - (intOf i).toNat)
  case atStart => exact ⟨j + 1, Nat.le_refl _, by omega, by go_num, by simp, rfl⟩
  case round =>
    obtain ⟨k, hk1, hk2, rfl, rfl, rfl⟩ := hrel
    by_cases hlt : k < min (j + 1 + far) st.length
    · have hc := (cell_of (o := k) H.out).trans (bools_get st k (by omega))
      have hs := Vm.pos_succ st k
      have hm := Vm.pos_le (st := st) hk1
      have hpk : Vm.pos st k ≤ 24 := Nat.le_trans (Vm.pos_le_all st k) (Nat.le_trans List.count_le_length hst)
      cases hb : st.getD k false
      all_goals
        rw [hb] at hc hs
        have HS := Lib.hid hs
        clear hs hb
        go_wp2
        go_roundw
        case rel =>
          refine ⟨k + 1, by omega, by omega, by go_num, ?_, trivial⟩
          have hs2 := HS.out
          simp only [Bool.false_eq_true, if_false, if_true] at hs2
          first
            | (rw [show Vm.pos st (k + 1) - Vm.pos st (j + 1) = Vm.pos st k - Vm.pos st (j + 1) by omega]; done)
            | (rw [show Vm.pos st (k + 1) - Vm.pos st (j + 1) = Vm.pos st k - Vm.pos st (j + 1) + 1 by omega]; go_num)
        case measure => first | (simp [intOf]; done) | (simp [intOf]; omega)
    · have hle : Vm.pos st k = Vm.pos st (j + 1 + far) := by
        have hk3 : k = min (j + 1 + far) st.length := by omega
        rw [hk3, Vm.pos_min rfl]
      rw [hle]
      clear hle
      go_wp2
      go_ret
      exact ⟨rfl, rfl⟩

theorem infoBool : (Tryz.prog.info? 4).map (fun i => (i.zero, i.size, i.bytes)) = some (some (.bool false), 1, 1) := by kernel_rfl
theorem made_bools (n : Nat) : (madeCells (Value.bool false).cells (n * 1)) = bools (List.replicate n false) := by
  unfold madeCells bools
  apply Array.ext
  · simp
  · intro i h1 h2
    simp [Value.cells, Nat.mod_one]
theorem own_block_at {W : World} {base e n : Nat} {g : Nat} {xs : List Value} (h : W.ownsRow base e 1 (.slice (some ⟨g, 0, none⟩) n n) n xs) : W.heap[g]? = some (.cells xs.toArray e) := by
  obtain ⟨h1, h2⟩ := h
  rcases h2 with ⟨h, _⟩ | ⟨g2, cap, cur, hv, hb, hh, hc, hm, hs, ht⟩
  · cases h
  · cases hv
    rw [hh]
    have : cur.toList.length = xs.length := by simp at hs; simp; omega
    have e1 : cur.toList = xs := by
      rw [← ht, List.take_of_length_le (by omega)]
    rw [← e1]
theorem set_rep (m : Nat) (b : Bool) (L : List Bool) : (List.replicate (m + 1) false ++ L).set m b = List.replicate m false ++ b :: L := by
  rw [List.replicate_succ', List.append_assoc, List.set_append_right _ _ (by simp)]
  simp
theorem lives_step (p : List Val) (ds : List Int) (m : Nat) (hm : m < p.length) (hd : ds.length = p.length) :
    Vm.livesL (p.drop m) (ds.drop m) = (decide (ds.getD m (-1) ≠ -1) && (decide (p[m].1 ≠ 16) || decide (0 < ((Vm.livesL (p.drop (m + 1)) (ds.drop (m + 1))).take p[m].2.toNat).count true))) :: Vm.livesL (p.drop (m + 1)) (ds.drop (m + 1)) := by
  rw [List.drop_eq_getElem_cons hm, List.drop_eq_getElem_cons (show m < ds.length by omega), Vm.livesL, List.getD_eq_getElem?_getD, List.getElem?_eq_getElem (show m < ds.length by omega)]
  rfl
theorem right_far {x y : Int} (h : Co.rightI (x, y) = true) : x = 15 ∨ x = 16 → y ≤ 24 := by
  unfold Co.rightI Co.lo Co.hi at h
  simp only [Bool.and_eq_true, decide_eq_true_eq] at h
  grind
/-- what lives keeps -/
def livesUp (p : List Val) (ds : List Int) (k : Nat) : List Bool := List.replicate (p.length - k) false ++ Vm.livesL (p.drop (p.length - k)) (ds.drop (p.length - k))

set_option maxHeartbeats 8000000 in
theorem lives_any (v : Value) (p : List Val) (ds : List Int) (hd : ds.length = p.length) (h24 : p.length ≤ 24) (hr : ∀ i ∈ p, Co.rightI i = true) (g2 c2 n2 : Nat) (hn2 : n2 = ds.length) (w : World) (hv : ValsAt w v p) (h2 : w.heap[g2]? = some (.cells (ints ds) 3)) :
    Calls Tryz.prog 30 #[v, .slice (some ⟨g2, 0, none⟩) n2 c2] w fun e w' => Grew w w' ∧ ∃ g, e = .returned (.slice (some ⟨g, 0, none⟩) p.length p.length) ∧ w'.heap[g]? = some (.cells (bools (Vm.livesL p ds)) 4) := by
  subst hn2
  obtain ⟨a, cap, rfl, hm, hl⟩ := hv.open2
  have HV := Lib.hid hv
  have H2 := Lib.hid h2
  have HR := Lib.hid hr
  have HD := Lib.hid hd
  clear hv hl h2 hr hd
  obtain ⟨i0, hi, hz0, hz1, hz2⟩ := info_parts infoBool
  go_enter Tryz.func30, Tryz.ntmps30
  go_wp2_with (at_make; refine wpList_make_full _ rfl (.tmp 9) (.tmp 9) 73 rfl w.heap.size 4 i0 (.bool false) 1 Tryz.underlying73 hi hz0 hz1 .i64 .i64 _ _ p.length rfl rfl rfl rfl (by rw [hz2]; omega) (by unfold maxLen; omega) (by simp [go_sem]) ?_; intro w2 hown2 hgr2; (have hb2 := own_block_at hown2); (have hgw := (Grew.refl _).grown hgr2 (by intro k hk; cases hk)); rw [show (madeCells (Value.bool false).cells (p.length * 1)).toList.toArray = bools (List.replicate p.length false) by rw [made_bools]] at hb2; (have HB2 := Lib.hid hb2); (have HGW := Lib.hid hgw); clear hown2 hgr2 hb2 hgw)
  go_loopw [13] (fun i wr => ∃ (k : Nat), k ≤ p.length ∧ i = .int .i64 k ∧ Grew w wr ∧ wr.heap[w.heap.size]? = some (.cells (bools (livesUp p ds k)) 4)) (fun i _ => p.length - (intOf i).toNat)
  case atStart => exact ⟨0, Nat.zero_le _, rfl, HGW.out, by rw [HB2.out]; unfold livesUp; simp [Vm.livesL]⟩
  case round =>
    obtain ⟨k, hk, rfl, hg, hc⟩ := hrel
    by_cases hlt : k < p.length
    · obtain ⟨m, hmk⟩ : ∃ m, p.length = m + k + 1 := ⟨p.length - k - 1, by omega⟩
      have hml : m < p.length := by omega
      have hst := lives_step p ds m hml HD.out
      obtain ⟨b, off, rfl, hb, h0, h1⟩ := ((HV.out.grew hg).open2).elim fun a' h => h.elim fun c' h => by
        obtain ⟨e, -, hx⟩ := h
        cases e
        exact hx m hml
      have hri := HR.out _ (List.getElem_mem hml)
      generalize p[m] = xy at *
      obtain ⟨x, y⟩ := xy
      simp only at h0 h1 hst
      obtain ⟨r0, r1, r2, r3, r4, -⟩ := right_args hri
      have r5 := right_far hri
      clear hri
      have hcd : wr.cell? ⟨g2, m, none⟩ = some (.int .i64 (ds.getD m (-1))) := (cell_of (grew_heap hg H2.out)).trans (ints_get _ _ (by rw [HD.out]; exact hml) _)
      have hpd := Pre.mk (heap_lt (grew_heap hg H2.out))
      have hpg := Pre.mk (heap_lt hc)
      have hsz := heap_lt hc
      generalize hL : Vm.livesL (p.drop (m + 1)) (ds.drop (m + 1)) = L at *
      have hcur : livesUp p ds k = List.replicate (m + 1) false ++ L := by
        unfold livesUp; rw [show p.length - k = m + 1 by omega, hL]
      have hnx : ∀ bb, (decide (ds.getD m (-1) ≠ -1) && (decide (x ≠ 16) || decide (0 < (L.take y.toNat).count true))) = bb → livesUp p ds (k + 1) = (List.replicate (m + 1) false ++ L).set m bb := fun bb hbb => by
        unfold livesUp; rw [show p.length - (k + 1) = m by omega, hst, hbb, set_rep]
      rw [hcur] at hc
      have hcl : (List.replicate (m + 1) false ++ L).length ≤ 24 := by
        have : L.length = p.length - (m + 1) := by
          rw [← hL, Vm.lives_len _ _ (by rw [List.length_drop, List.length_drop, HD.out]), List.length_drop]
        rw [List.length_append, List.length_replicate, this]; omega
      have hcp : (List.replicate (m + 1) false ++ L).length = p.length := by
        have : L.length = p.length - (m + 1) := by
          rw [← hL, Vm.lives_len _ _ (by rw [List.length_drop, List.length_drop, HD.out]), List.length_drop]
        rw [List.length_append, List.length_replicate, this]; omega
      have hdr : (List.replicate (m + 1) false ++ L).drop (m + 1) = L := by
        rw [List.drop_append_of_le_length (by simp)]; simp
      have hov := fun (far : Nat) (hf : far ≤ 100) W' (g : Grew wr W') => over_any (List.replicate (m + 1) false ++ L) m far (by rw [hcp]; exact hml) hcl hf w.heap.size p.length p.length hcp.symm W' (grew_heap g hc)
      rw [hdr] at hov
      have he : (p.length : Int) - 1 - (k : Int) = (m : Int) := by omega
      have hdl : m < ds.length := by rw [HD.out]; exact hml
      have hset : ∀ bb, (wr.setCell ⟨w.heap.size, m, none⟩ (.bool bb)).heap[w.heap.size]? = some (.cells (bools ((List.replicate (m + 1) false ++ L).set m bb)) 4) := fun bb => by
        rw [set_self hc, bools_set]
      have hcb : ∃ u, wr.cell? ⟨w.heap.size, m, none⟩ = some u := ⟨_, (cell_of hc).trans (bools_get _ m (by rw [hcp]; exact hml))⟩
      have hfz := frozen_of (o := m) hc
      obtain ⟨u, hcb⟩ := hcb
      have HC := Lib.hid hc
      have HG := Lib.hid hg
      have HNX := Lib.hid hnx
      have HSET := Lib.hid hset
      have HOV := Lib.hid hov
      clear hc hg hnx hset hov hcur hst hL hdr hcp hcl hmk
      generalize ds.getD m (-1) = d at *
      by_cases e0 : d = -1
      · subst e0
        have hdn : ((-1 : Int) != -1) = false := by decide
        have hn := HNX.out false (by simp)
        have HN := Lib.hid hn
        clear hn
        go_wp2
        go_roundw
        case rel => exact ⟨k + 1, by omega, by go_num, HG.out.set (Nat.le_refl _) _, by rw [HN.out]; exact HSET.out _⟩
        case measure => first | (simp [intOf]; done) | (simp [intOf]; omega)
      · have hdn : (d != -1) = true := by simpa using e0
        by_cases e16 : x = 16
        · subst e16
          obtain ⟨far, rfl⟩ : ∃ far : Nat, y = far := ⟨y.toNat, by have := r4 (.inr rfl); omega⟩
          have hfar : far ≤ 24 := by have := r5 (.inr rfl); omega
          have hov := HOV.out far (by omega) 
          have hn := HNX.out (decide (0 < (L.take far).count true)) (by simp [e0])
          have HN := Lib.hid hn
          have HOV2 := Lib.hid hov
          generalize (L.take far).count true = cn at *
          clear hn e0 hov
          go_wp2_with (go_at_call 31; refine (HOV2.out wr (Grew.refl wr)).mono ?_; rintro e w1 ⟨rfl, rfl⟩)
          go_roundw
          case rel => exact ⟨k + 1, by omega, by go_num, HG.out.set (Nat.le_refl _) _, by rw [HN.out]; exact HSET.out _⟩
          case measure => first | (simp [intOf]; done) | (simp [intOf]; omega)
        · have hxn : (x != 16) = true := by simpa using e16
          have hn := HNX.out true (by simp [e0, e16])
          have HN := Lib.hid hn
          clear hn e16 e0
          go_wp2
          go_roundw
          case rel => exact ⟨k + 1, by omega, by go_num, HG.out.set (Nat.le_refl _) _, by rw [HN.out]; exact HSET.out _⟩
          case measure => first | (simp [intOf]; done) | (simp [intOf]; omega)
    · obtain rfl : k = p.length := by omega
      have hcur : livesUp p ds p.length = Vm.livesL p ds := by unfold livesUp; simp
      rw [hcur] at hc
      have HC := Lib.hid hc
      have HG := Lib.hid hg
      clear hc hg
      go_wp2
      go_ret
      exact ⟨HG.out, _, rfl, HC.out⟩

def TrimGives (l : List Val) (w : World) (e : Ending) (w' : World) : Prop :=
  Grew w w' ∧ match Vm.checkC l with
    | none => e = .returned (.tuple #[.slice none 0 0, .int .i64 9])
    | some s => ∃ v, e = .returned (.tuple #[v, .int .i64 0]) ∧ ValsAt w' v (Vm.trimL l (Vm.livesL l s.depth))
theorem trimL_step (l : List Val) (st : List Bool) (k : Nat) (hk : k < l.length) (hs : st.length = l.length) :
    Vm.trimL (l.drop k) (st.drop k) = if st.getD k false = true then Vm.trimOne l[k] (((st.drop (k + 1)).take l[k].2.toNat).count true) :: Vm.trimL (l.drop (k + 1)) (st.drop (k + 1)) else Vm.trimL (l.drop (k + 1)) (st.drop (k + 1)) := by
  rw [List.drop_eq_getElem_cons hk, List.drop_eq_getElem_cons (show k < st.length by omega), Vm.trimL, List.getD_eq_getElem?_getD, List.getElem?_eq_getElem (show k < st.length by omega)]
  rfl

set_option maxHeartbeats 8000000 in
theorem trim_any (v : Value) (l : List Val) (w : World) (hv : ValsAt w v l) : Calls Tryz.prog 18 #[v] w (TrimGives l w) := by
  obtain ⟨a, cap, rfl, hm, hl⟩ := hv.open2
  obtain ⟨G, hG⟩ : ∃ G, G = TrimGives l w := ⟨_, rfl⟩
  rw [← hG]
  have HV := Lib.hid hv
  clear hv hl
  cases hc : Vm.checkC l with
  | none =>
    have HC := Lib.hid hc
    have HGV := Lib.hid hG
    clear hc hG
    go_enter Tryz.func18, Tryz.ntmps18
    go_wp2_with (go_at_call 29; refine (check_any _ l _ (HV.out.grew (by repeat (first | with_reducible exact Grew.refl _ | apply Grew.more | apply Grew.alloc | apply Grew.drew | apply Grew.drewN)))).mono ?_; rintro e w1 ⟨⟨R1, n1, rfl⟩, h1⟩; rw [HC.out] at h1; simp only at h1; subst h1)
    rw [HGV.out]
    exact ⟨by repeat (first | with_reducible exact Grew.refl _ | apply Grew.more | apply Grew.alloc | apply Grew.drew | apply Grew.drewN), by rw [HC.out]; rfl⟩
  | some s =>
    have HC := Lib.hid hc
    have HGV := Lib.hid hG
    have hlen := Vm.checkC_len hc
    have hfit := Co.fits_parts (Vm.checkC_fits hc)
    have h24 := hfit.1
    have HR := Lib.hid hfit.2
    have hlv := Vm.lives_len l s.depth hlen
    have hq : Vm.trimL l (Vm.livesL l s.depth) = [] ++ Vm.trimL (l.drop 0) ((Vm.livesL l s.depth).drop 0) := rfl
    have HQ := Lib.hid hq
    have HLEN := Lib.hid hlen
    have htl := Vm.trim_len l _ hlv
    have hq24 : (Vm.trimL l (Vm.livesL l s.depth)).length ≤ 24 := by rw [htl]; exact Nat.le_trans List.count_le_length (by omega)
    have hstep := fun k hk => trimL_step l (Vm.livesL l s.depth) k hk hlv
    clear hc hG hlen hfit hq htl
    go_enter Tryz.func18, Tryz.ntmps18
    go_wp2_with (first
      | (go_at_call 29; refine (check_any _ l _ (HV.out.grew (by repeat (first | with_reducible exact Grew.refl _ | apply Grew.more | apply Grew.alloc | apply Grew.drew | apply Grew.drewN)))).mono ?_; rintro e w1 ⟨⟨R1, n1, rfl⟩, h1⟩; rw [HC.out] at h1; simp only at h1; obtain ⟨v1, rfl, g, cg, rfl, hdep⟩ := h1; (have HDEP := Lib.hid hdep); clear hdep)
      | (go_at_call 30; refine (lives_any _ l s.depth HLEN.out h24 HR.out g cg s.depth.length rfl _ (HV.out.grew (by repeat (first | with_reducible exact Grew.refl _ | apply Grew.more | apply Grew.alloc | apply Grew.drew | apply Grew.drewN))) (grew_heap (by repeat (first | with_reducible exact Grew.refl _ | apply Grew.more | apply Grew.alloc | apply Grew.drew | apply Grew.drewN)) HDEP.out)).mono ?_; rintro e w3 ⟨hg3, gb, rfl, hb3⟩; (have hg3' : Grew w w3 := Grew.trans (by repeat (first | with_reducible exact Grew.refl _ | apply Grew.more | apply Grew.alloc | apply Grew.drew | apply Grew.drewN)) hg3); (have HG3 := Lib.hid hg3'); (have HB3 := Lib.hid hb3); clear hg3 hg3' hb3)
      )
    generalize hst : Vm.livesL l s.depth = st at *
    generalize hqq : Vm.trimL l st = q at *
    have HQQ := Lib.hid hqq
    have HST := Lib.hid hst
    have HSTEP := Lib.hid hstep
    clear hqq hst hstep
    go_loopw [7, 24] (fun vo i wr => ∃ (k : Nat) (acc : List Val), k ≤ l.length ∧ i = .int .i64 k ∧ OwnAt w3.heap.size 44 2 encI wr vo acc ∧ q = acc ++ Vm.trimL (l.drop k) (st.drop k) ∧ Grew w3 wr) (fun _ i _ => l.length - (intOf i).toNat)
    case atStart => exact ⟨0, [], Nat.zero_le _, rfl, OwnAt.nil _, HQ.out, Grew.refl _⟩
    case round =>
      obtain ⟨k, acc, hk, rfl, ho, hqk, hg⟩ := hrel
      have hal : acc.length ≤ 24 := by
        have := congrArg List.length hqk
        rw [List.length_append] at this
        omega
      by_cases hlt : k < l.length
      · have hsp := HSTEP.out k hlt
        obtain ⟨b, off, rfl, hb, h0, h1⟩ := ((HV.out.grew (HG3.out.trans hg)).open2).elim fun a' h => h.elim fun c' h => by
          obtain ⟨e, -, hx⟩ := h
          cases e
          exact hx k hlt
        have hri := HR.out _ (List.getElem_mem hlt)
        generalize l[k] = xy at *
        obtain ⟨x, y⟩ := xy
        simp only at h0 h1 hsp
        obtain ⟨r0, r1, r2, r3, r4, -⟩ := right_args hri
        have r5 := right_far hri
        clear hri
        have hb3 := grew_heap hg HB3.out
        have hcb := (cell_of hb3).trans (bools_get st k (by rw [hlv]; exact hlt))
        have hpb := Pre.mk (heap_lt hb3)
        have HO := Lib.hid ho
        have HQK := Lib.hid hqk
        have HG := Lib.hid hg
        have HB := Lib.hid hb3
        clear hqk hg hb3 ho
        cases hs : st.getD k false
        · rw [hs, if_neg (by decide)] at hsp
          rw [hs] at hcb
          have HSP := Lib.hid hsp
          clear hsp hs r4 r5
          go_wp2
          go_roundw
          case rel => exact ⟨k + 1, acc, by omega, by go_num, HO.out.grew (by repeat (first | with_reducible exact Grew.refl _ | apply Grew.more | apply Grew.alloc | apply Grew.drew | apply Grew.drewN)), by rw [← HSP.out]; exact HQK.out, HG.out.trans (by repeat (first | with_reducible exact Grew.refl _ | apply Grew.more | apply Grew.alloc | apply Grew.drew | apply Grew.drewN))⟩
          case measure => first | (simp [intOf]; done) | (simp [intOf]; omega)
        · rw [hs, if_pos rfl] at hsp
          rw [hs] at hcb
          obtain ⟨vv, hvv⟩ : ∃ vv, vv = Vm.trimOne (x, y) (((st.drop (k + 1)).take y.toNat).count true) := ⟨_, rfl⟩
          rw [← hvv] at hsp
          have hqn : q = (acc ++ [vv]) ++ Vm.trimL (l.drop (k + 1)) (st.drop (k + 1)) := by
            rw [HQK.out, hsp, List.append_assoc]; rfl
          have HQN := Lib.hid hqn
          clear hsp hs hqn
          by_cases e15 : x = 15
          · subst e15
            obtain ⟨far, rfl⟩ : ∃ far : Nat, y = far := ⟨y.toNat, by have := r4 (.inl rfl); omega⟩
            have hfar : far ≤ 24 := by have := r5 (.inl rfl); omega
            have hov := fun W' (g : Grew wr W') => over_any st k far (by rw [hlv]; exact hlt) (by rw [hlv]; exact h24) (by omega) gb l.length l.length hlv.symm W' (grew_heap g HB.out)
            rw [Int.toNat_natCast] at hvv
            generalize ((st.drop (k + 1)).take far).count true = cn at *
            have HOV := Lib.hid hov
            clear hov r4 r5
            by_cases ecn : cn = 0
            · subst ecn
              rw [Vm.trimOne_drop rfl] at hvv
              subst hvv
              go_wp2_with (first
                | (go_at_call 31; refine (HOV.out _ (by repeat (first | with_reducible exact Grew.refl _ | apply Grew.more | apply Grew.alloc | apply Grew.drew | apply Grew.drewN))).mono ?_; rintro e w1 ⟨rfl, rfl⟩)
                | (at_builtin; refine wpList_own1 (w0 := w3) rfl (.tmp 57) (.tmp 59) 22 _ _ _ _ (13, 0) rfl Tryz.underlying22 infoIns rfl (by decide) encI_len encI_one rfl (HO.out.grew (by repeat (first | with_reducible exact Grew.refl _ | apply Grew.more | apply Grew.alloc | apply Grew.drew | apply Grew.drewN))) (HG.out.trans (by repeat (first | with_reducible exact Grew.refl _ | apply Grew.more | apply Grew.alloc | apply Grew.drew | apply Grew.drewN))) rfl (encI_at _ _ _ _ rfl (by simp [go_sem])) (by omega) (by decide) ?_; intro v9 R9 n9 hown9; (have HO9 := Lib.hid hown9); clear hown9)
                )
              go_roundw
              case rel => exact ⟨k + 1, _, by omega, by go_num, HO9.out, HQN.out, by repeat (first | with_reducible exact Grew.refl _ | apply Grew.more | apply Grew.alloc | apply Grew.drew | apply Grew.drewN)⟩
              case measure => first | (simp [intOf]; done) | (simp [intOf]; omega)
            · rw [Vm.trimOne_jump (.inl rfl) (fun _ => ecn)] at hvv
              subst hvv
              have bcn : ((cn : Int) == 0) = false := by simpa using ecn
              clear ecn
              go_wp2_with (first
                | (go_at_call 31; refine (HOV.out _ (by repeat (first | with_reducible exact Grew.refl _ | apply Grew.more | apply Grew.alloc | apply Grew.drew | apply Grew.drewN))).mono ?_; rintro e w1 ⟨rfl, rfl⟩)
                | (at_builtin; refine wpList_own1 (w0 := w3) rfl (.tmp 57) (.tmp 59) 22 _ _ _ _ (15, (cn : Int)) rfl Tryz.underlying22 infoIns rfl (by decide) encI_len encI_one rfl (HO.out.grew (by repeat (first | with_reducible exact Grew.refl _ | apply Grew.more | apply Grew.alloc | apply Grew.drew | apply Grew.drewN))) (HG.out.trans (by repeat (first | with_reducible exact Grew.refl _ | apply Grew.more | apply Grew.alloc | apply Grew.drew | apply Grew.drewN))) rfl (encI_at _ _ _ _ rfl (by simp [go_sem])) (by omega) (by decide) ?_; intro v9 R9 n9 hown9; (have HO9 := Lib.hid hown9); clear hown9)
                )
              go_roundw
              case rel => exact ⟨k + 1, _, by omega, by go_num, HO9.out, HQN.out, by repeat (first | with_reducible exact Grew.refl _ | apply Grew.more | apply Grew.alloc | apply Grew.drew | apply Grew.drewN)⟩
              case measure => first | (simp [intOf]; done) | (simp [intOf]; omega)
          · by_cases e16 : x = 16
            · subst e16
              obtain ⟨far, rfl⟩ : ∃ far : Nat, y = far := ⟨y.toNat, by have := r4 (.inr rfl); omega⟩
              have hfar : far ≤ 24 := by have := r5 (.inr rfl); omega
              have hov := fun W' (g : Grew wr W') => over_any st k far (by rw [hlv]; exact hlt) (by rw [hlv]; exact h24) (by omega) gb l.length l.length hlv.symm W' (grew_heap g HB.out)
              rw [Int.toNat_natCast] at hvv
              generalize ((st.drop (k + 1)).take far).count true = cn at *
              have HOV := Lib.hid hov
              clear hov r4 r5
              rw [Vm.trimOne_jump (.inr rfl) (fun x => absurd x (show (16 : Int) ≠ 15 by decide))] at hvv
              subst hvv
              go_wp2_with (first
                | (go_at_call 31; refine (HOV.out _ (by repeat (first | with_reducible exact Grew.refl _ | apply Grew.more | apply Grew.alloc | apply Grew.drew | apply Grew.drewN))).mono ?_; rintro e w1 ⟨rfl, rfl⟩)
                | (at_builtin; refine wpList_own1 (w0 := w3) rfl (.tmp 57) (.tmp 59) 22 _ _ _ _ (16, (cn : Int)) rfl Tryz.underlying22 infoIns rfl (by decide) encI_len encI_one rfl (HO.out.grew (by repeat (first | with_reducible exact Grew.refl _ | apply Grew.more | apply Grew.alloc | apply Grew.drew | apply Grew.drewN))) (HG.out.trans (by repeat (first | with_reducible exact Grew.refl _ | apply Grew.more | apply Grew.alloc | apply Grew.drew | apply Grew.drewN))) rfl (encI_at _ _ _ _ rfl (by simp [go_sem])) (by omega) (by decide) ?_; intro v9 R9 n9 hown9; (have HO9 := Lib.hid hown9); clear hown9)
                )
              go_roundw
              case rel => exact ⟨k + 1, _, by omega, by go_num, HO9.out, HQN.out, by repeat (first | with_reducible exact Grew.refl _ | apply Grew.more | apply Grew.alloc | apply Grew.drew | apply Grew.drewN)⟩
              case measure => first | (simp [intOf]; done) | (simp [intOf]; omega)
            · rw [Vm.trimOne_else e15 e16] at hvv
              subst hvv
              have b15 : (x == 15) = false := by simpa using e15
              have b16 : (x == 16) = false := by simpa using e16
              clear r4 r5
              go_wp2_with (at_builtin; refine wpList_own1 (w0 := w3) rfl (.tmp 57) (.tmp 59) 22 _ _ _ _ (x, y) rfl Tryz.underlying22 infoIns rfl (by decide) encI_len encI_one rfl (HO.out.grew (by repeat (first | with_reducible exact Grew.refl _ | apply Grew.more | apply Grew.alloc | apply Grew.drew | apply Grew.drewN))) (HG.out.trans (by repeat (first | with_reducible exact Grew.refl _ | apply Grew.more | apply Grew.alloc | apply Grew.drew | apply Grew.drewN))) rfl (encI_at _ _ _ _ rfl (by simp [go_sem])) (by omega) (by decide) ?_; intro v9 R9 n9 hown9; (have HO9 := Lib.hid hown9); clear hown9)
              go_roundw
              case rel => exact ⟨k + 1, _, by omega, by go_num, HO9.out, HQN.out, by repeat (first | with_reducible exact Grew.refl _ | apply Grew.more | apply Grew.alloc | apply Grew.drew | apply Grew.drewN)⟩
              case measure => first | (simp [intOf]; done) | (simp [intOf]; omega)
      · obtain rfl : k = l.length := by omega
        have hqe : q = acc := by rw [hqk]; simp [Vm.trimL]
        subst hqe
        have HO := Lib.hid ho
        have HG := Lib.hid hg
        clear ho hg
        go_wp2
        rw [HGV.out]
        refine ⟨HG3.out.trans HG.out, ?_⟩
        rw [HC.out]
        refine ⟨_, rfl, ?_⟩
        rw [HST.out, HQQ.out]
        exact HO.out.rows encI_len
end Go.Proofs.YtiocdmfmghanmaaGreatDoor
