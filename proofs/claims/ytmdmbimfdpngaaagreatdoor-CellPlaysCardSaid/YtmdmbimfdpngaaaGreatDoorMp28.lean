import Derived.Test.YtmdmbimfdpngaaaGreatDoorMp20
import Derived.Test.YtmdmbimfdpngaaaGreatDoorMp21
import Derived.Test.YtmdmbimfdpngaaaGreatDoorMp27
import Derived.ChangeKeysEq
import Derived.Test.YtmdmbimfdpngaaaGreatDoorMp10
/-! cell: Get, Right, Run, Drop, Copy. -/
namespace Go.Proofs.YtmdmbimfdpngaaaGreatDoor
set_option linter.unusedSimpArgs false
set_option linter.unusedVariables false
open Go.RowKit Ga
set_option maxRecDepth 100000

theorem thereB_at {n k : Int} (h : thereB n k = true) (v : Val) : There ⟨n, k, v, v⟩ := (thereB_iff (x := ⟨n, k, v, v⟩)).1 h
theorem TabD.found {D : DataW Unit} {m : List Tab.En} (h : TabD D m) {n k : Int} (ht : thereB n k = true) {kl : Lit} (hk : keyOf Tryz.prog 115 (ceK n k) = some kl) : D.atKey kl (ceDat (0, 0) (0, 0)) = ceDat (getT m n k).1 (getT m n k).2 := by
  rcases getT_cases m n k with ⟨x, hx, h1, h2⟩ | ⟨h1, h2⟩
  · rw [h2]
    obtain ⟨e1, e2⟩ := ((h.there x hx).inj (thereB_at ht x.c0)).1 (h1.trans rfl)
    simp only at e1 e2
    exact (h.at' x hx kl (by rw [e1, e2]; exact hk)).2 _
  · rw [h2]
    cases hh : Maps.has D kl
    · exact Maps.atKey_of_not_has hh _
    · obtain ⟨x, hx, hxk⟩ := h.has kl hh
      obtain ⟨e1, e2⟩ := ceK_inj (cell_law.inj hxk hk)
      exact absurd (by unfold Tab.num; rw [e1, e2]) (h1 x hx)
theorem zeroCells (w : World) : (zeroValue 48).run Tryz.prog w = .ok (cev (0, 0) (0, 0)) w := by kernel_rfl
theorem TabAt.look {W : World} {b n : Nat} {m : List Tab.En} (h : TabAt W b n m) {nd k : Int} (ht : thereB nd k = true) :
    (Instr.lookup 104 (.map (some b)) (ceK nd k) false).run Tryz.prog W = .ok (cev (getT m nd k).1 (getT m nd k).2) W := by
  obtain ⟨D, ho, hD⟩ := h
  obtain ⟨kl, hk⟩ := (thereB_at ht (0, 0)).kl
  obtain ⟨v, ps, hr, hR⟩ := World.ownsMap.lookup ho cell_law Tryz.underlying104 (zeroCells W) (ceR_mk (0, 0) (0, 0)) hk
  rw [hD.found ht hk] at hR
  obtain ⟨c, hv, hd⟩ := ceR_inv hR
  injection hd with hd1 _
  obtain ⟨e1, e2⟩ := ceDat_inj hd1
  rw [hr, hv, ← e1, ← e2]
set_option maxHeartbeats 2000000 in
theorem tabGet_any (W : World) (t b n : Nat) (m : List Tab.En) (hT : TableAt W t b n m) (nd k : Int) (ht : thereB nd k = true) (c0 c1 : Val) (hc : getT m nd k = (c0, c1)) :
    Calls Tryz.prog 23 #[.pointer (some ⟨t, 0, none⟩), .int .i64 nd, .int .i64 k] W (Gives (.agg #[.int .i64 c0.1, .int .i64 c0.2, .int .i64 c1.1, .int .i64 c1.2]) W) := by
  have tc := cell_of (o := 0) hT.1
  simp at tc
  have pt := Pre.mk (heap_lt hT.1)
  have hlk := fun W2 (g : Grew W W2) => (hT.2.grew g).look ht
  rw [hc] at hlk
  have hlook := hlk (W.alloc (.cells #[.int .i64 0, .int .i64 0, .int .i64 0, .int .i64 0] 48)) ((Grew.refl W).alloc _)
  unfold ceK cev at hlook
  clear hT hlk hc
  go_enter Tryz.func23, Tryz.ntmps23
  go_wp2
  refine bodyPost_ret (v := .agg #[.int .i64 c0.1, .int .i64 c0.2, .int .i64 c1.1, .int .i64 c1.2]) (by simp [results, Tryz.results23, go_sem]) rfl ?_
  exact ⟨rfl, by repeat (first | with_reducible exact Grew.refl _ | apply Grew.more | apply Grew.alloc | apply Grew.drew | apply Grew.drewN)⟩
theorem cellRight_any (k x y : Int) (w : World) : Calls Tryz.prog 46 #[.agg #[.int .i64 k, .int .i64 x, .int .i64 y]] w (Gives (.bool (thereB 0 k && rightV (x, y))) w) := by
  cases h : thereB 0 k
  · have H := Lib.hid h
    clear h
    go_enter Tryz.func46, Tryz.ntmps46
    go_wp2_with (go_at_call 45; refine (there_any _ _ _).mono ?_; rintro e w1 ⟨rfl, rfl⟩; rw [H.out])
    go_ret
    exact ⟨rfl, by repeat (first | with_reducible exact Grew.refl _ | apply Grew.more | apply Grew.alloc | apply Grew.drew | apply Grew.drewN)⟩
  · have H := Lib.hid h
    clear h
    go_enter Tryz.func46, Tryz.ntmps46
    go_wp2_with (first
      | (go_at_call 45; refine (there_any _ _ _).mono ?_; rintro e w1 ⟨rfl, rfl⟩; rw [H.out])
      | (go_at_call 53; refine (right_xy _ _ _).mono ?_; rintro e w1 ⟨rfl, R1, n1, rfl⟩))
    go_ret
    exact ⟨by simp, by repeat (first | with_reducible exact Grew.refl _ | apply Grew.more | apply Grew.alloc | apply Grew.drew | apply Grew.drewN)⟩
/-- what lies in cells stays as it is where a map's block is turned -/
theorem rows_keepB {α : Type} {k : Nat} {enc : α → List Value} {w w' : World} {v : Value} {l : List α} {b : Nat} (h : RowsAt k enc w v l) (hk : Keep b w w') (hb : ∀ c t f, w.heap[b]? ≠ some (.cells c t f)) : RowsAt k enc w' v l := by
  obtain ⟨a, cap, rfl, hm, hx⟩ := h
  refine ⟨a, cap, rfl, hm, fun hne => ?_⟩
  obtain ⟨q, off, rfl, hc⟩ := hx hne
  refine ⟨q, off, rfl, fun i x hi j u hu => ?_⟩
  have h1 := hc i x hi j u hu
  have h2 := World.block_lt_of_cell? w _ h1
  have hq : q ≠ b := by
    rintro rfl
    unfold World.cell? at h1
    split at h1
    · rename_i e
      exact hb _ _ _ e
    · cases h1
  unfold World.cell? at h1 ⊢
  simp only at h1 h2 ⊢
  rw [hk.2 q h2 hq]
  exact h1
theorem TabAt.nocells {W : World} {b n : Nat} {m : List Tab.En} (h : TabAt W b n m) : ∀ c t f, W.heap[b]? ≠ some (.cells c t f) := by
  obtain ⟨D, ⟨es, c, h1, -⟩, -⟩ := h
  intro c t f e
  rw [h1] at e
  cases e
/-- another block than the map's keeps what it has -/
theorem TableAt.keep {W W' : World} {t b b2 n : Nat} {m : List Tab.En} (h : TableAt W t b n m) (hk : Keep b2 W W') (h1 : t ≠ b2) (h2 : b ≠ b2) : TableAt W' t b n m :=
  ⟨by rw [hk.2 t (heap_lt h.1) h1]; exact h.1, h.2.same (hk.2 b h.2.lt h2)⟩
theorem TableAt.put {W W' : World} {t b n n' : Nat} {m m' : List Tab.En} (h : TableAt W t b n m) (hk : Keep b W W') (hm : TabAt W' b n' m') : TableAt W' t b n' m' :=
  ⟨by rw [hk.2 t (heap_lt h.1) h.ne]; exact h.1, hm⟩
/-! Drop -/
/-- without some entries -/
def lessT (m l : List Tab.En) : List Tab.En := l.foldl (fun m x => m.filter fun y => Tab.num y != Tab.num x) m
theorem lessT_succ {m l : List Tab.En} {k : Nat} (hk : k < l.length) : lessT m (l.take (k + 1)) = (lessT m (l.take k)).filter fun y => Tab.num y != Tab.num l[k] := by
  unfold lessT
  rw [List.take_succ_eq_append_getElem hk, List.foldl_append]
  rfl
theorem lessT_mem : ∀ {l m : List Tab.En} {y : Tab.En}, y ∈ lessT m l ↔ y ∈ m ∧ ∀ x ∈ l, Tab.num y ≠ Tab.num x
  | [], m, y => by unfold lessT; simp
  | x :: l, m, y => by
    have : lessT m (x :: l) = lessT (m.filter fun y => Tab.num y != Tab.num x) l := rfl
    rw [this, lessT_mem, List.mem_filter]
    simp only [bne_iff_ne, List.mem_cons, forall_eq_or_imp, and_assoc]
theorem lessT_sub : ∀ (l m : List Tab.En), (lessT m l).Sublist m
  | [], m => List.Sublist.refl _
  | x :: l, m => (lessT_sub l (m.filter fun y => Tab.num y != Tab.num x)).trans List.filter_sublist
theorem sub_same {α : Type} : ∀ {a b m : List α}, a.Sublist m → b.Sublist m → m.Nodup → (∀ x, x ∈ a ↔ x ∈ b) → a = b
  | [], b, _, _, _, _, h => by
    cases b with
    | nil => rfl
    | cons x b => exact absurd ((h x).2 (List.mem_cons_self ..)) (by simp)
  | x :: a, [], _, _, _, _, h => absurd ((h x).1 (List.mem_cons_self ..)) (by simp)
  | x :: a, y :: b, m, ha, hb, hn, h => by
    induction m with
    | nil => cases ha
    | cons z m ih =>
      obtain ⟨hz, hm⟩ := List.nodup_cons.1 hn
      by_cases hxz : x = z
      · subst hxz
        by_cases hyx : y = x
        · subst hyx
          have ha' := (List.cons_sublist_cons.1 ha)
          have hb' := (List.cons_sublist_cons.1 hb)
          rw [sub_same ha' hb' hm fun u => by
            constructor
            · intro hu
              rcases List.mem_cons.1 ((h u).1 (List.mem_cons_of_mem _ hu)) with rfl | h2
              · exact absurd (ha'.subset hu) hz
              · exact h2
            · intro hu
              rcases List.mem_cons.1 ((h u).2 (List.mem_cons_of_mem _ hu)) with rfl | h2
              · exact absurd (hb'.subset hu) hz
              · exact h2]
        · exfalso
          have hb' : (y :: b).Sublist m := by
            cases hb with
            | cons _ h => exact h
            | cons_cons _ h => exact absurd rfl hyx
          exact hz (hb'.subset ((h x).1 (List.mem_cons_self ..)))
      · have ha' : (x :: a).Sublist m := by
          cases ha with
          | cons _ h => exact h
          | cons_cons _ h => exact absurd rfl hxz
        by_cases hyz : y = z
        · exfalso
          subst hyz
          exact hz (ha'.subset ((h y).2 (List.mem_cons_self ..)))
        · have hb' : (y :: b).Sublist m := by
            cases hb with
            | cons _ h => exact h
            | cons_cons _ h => exact absurd rfl hyz
          exact ih ha' hb' hm
/-- without all that is asked for -/
theorem lessT_of {m s : List Tab.En} {p : Tab.En → Bool} (hu : UnE m) (hs : s.Perm (m.filter p)) : lessT m s = m.filter fun x => !p x := by
  have hn : m.Nodup := by
    rw [List.nodup_iff_pairwise_ne]
    exact hu.imp fun h e => h (by rw [e])
  refine sub_same (lessT_sub s m) List.filter_sublist hn fun y => ?_
  rw [lessT_mem, List.mem_filter]
  constructor
  · rintro ⟨h1, h2⟩
    refine ⟨h1, ?_⟩
    cases hp : p y
    · rfl
    · exact absurd rfl (h2 y (hs.mem_iff.2 (List.mem_filter.2 ⟨h1, hp⟩)))
  · rintro ⟨h1, h2⟩
    refine ⟨h1, fun x hx e => ?_⟩
    obtain ⟨h3, h4⟩ := List.mem_filter.1 (hs.mem_iff.1 hx)
    rw [un_eq hu h1 h3 e, h4] at h2
    cases h2
def DropPost (w0 W : World) (t b n : Nat) (m : List Tab.En) (e : Ending) (W' : World) : Prop := e = .returned (.tuple #[]) ∧ TableAt W' t b n m ∧ Grew w0 W' ∧ Keep b W W'
set_option maxHeartbeats 8000000 in
theorem tabDrop_any (w0 W : World) (t b n : Nat) (m : List Tab.En) (hT : TableAt W t b n m) (hu : OkT m) (hg : Grew w0 W) (hb : w0.heap.size ≤ b) (nd : Int) (gs : List Int) (vg : Value) (hgs : IntsAt W vg gs) :
    Calls Tryz.prog 25 #[.pointer (some ⟨t, 0, none⟩), .int .i64 nd, vg] W (DropPost w0 W t b n (m.filter fun x => !ofP nd gs x)) := by
  have HT := Lib.hid hT
  have HU := Lib.hid hu
  have HG := Lib.hid hg
  have HGS := Lib.hid hgs
  obtain ⟨ag, cg, rfl⟩ := hgs.len
  have hlen := len512 hu.there hu.un
  have hfl := List.length_filter_le (ofP nd gs) m
  have tc := cell_of (o := 0) hT.1
  simp at tc
  have pt := Pre.mk (heap_lt hT.1)
  have HNE := Lib.hid hT.ne
  have HBW := Lib.hid hT.2.lt
  clear hT hu hg hgs
  go_enter Tryz.func25, Tryz.ntmps25
  go_wp2_with (go_at_call 24; go_loud (refine (tabOf_any _ t b n m (HT.out.grew (by repeat (first | with_reducible exact Grew.refl _ | apply Grew.more | apply Grew.alloc | apply Grew.drew | apply Grew.drewN))) nd gs _ (HGS.out.grew (by repeat (first | with_reducible exact Grew.refl _ | apply Grew.more | apply Grew.alloc | apply Grew.drew | apply Grew.drewN)))).mono ?_); rintro e w1 ⟨v, s, rfl, h1, h2, h3, h4⟩; obtain ⟨asl, cs, rfl⟩ := (OwnAt.rows h1 encEn_len).len; (have HS := Lib.hid (OwnAt.rows h1 encEn_len)); (have HP := Lib.hid h2); (have HG1 := Lib.hid h4); (have HSL := Lib.hid h2.length_eq); clear h1 h2 h3 h4)
  have hsb : s.length ≤ 512 := by rw [HSL.out]; omega
  have HSM : Hid (∀ x ∈ s, ofP nd gs x = true ∧ x ∈ m) := Lib.hid fun x hx => let q := List.mem_filter.1 (HP.out.mem_iff.1 hx); ⟨q.2, q.1⟩
  have HT1 := Lib.hid (HT.out.grew HG1.out)
  go_loopg [13] s.length (fun gg s13 wr => ∃ k : Nat, k ≤ s.length ∧ s.length - k ≤ gg ∧ s13 = .int .i64 k ∧ Hid (TableAt wr t b n (lessT m (s.take k))) ∧ Hid (Grew w0 wr) ∧ Hid (Keep b w1 wr))
  case atStart => exact ⟨0, by omega, by omega, rfl, HT1, Lib.hid (HG.out.trans HG1.out), Lib.hid (Keep.ofGrew (Grew.refl _))⟩
  case round =>
    obtain ⟨k, hk, hgg, rfl, HTR, HGR, HKR⟩ := hrel
    by_cases hlt : k < s.length
    · have hrows : EntsAt wr (.slice asl s.length cs) s := rows_keepB HS.out HKR.out (fun c t f => TabAt.nocells HT1.out.2 c t f)
      obtain ⟨a', cap', e, -, hx⟩ := EntsAt.open6 hrows
      cases e
      obtain ⟨q, off, rfl, hq, c0, c1, c2, c3, c4, c5⟩ := hx k hlt
      have HNS := Lib.hid (lessT_succ (m := m) hlt)
      obtain ⟨h1, h2⟩ := HSM.out s[k] (List.getElem_mem hlt)
      have hth := HU.out.there _ h2
      have hnd : s[k].node = nd := by unfold ofP at h1; simp at h1; exact h1.1
      clear hx hrows h1 h2
      generalize s[k] = x at *
      obtain ⟨xn, ky, ⟨p0, q0⟩, ⟨p1, q1⟩⟩ := x
      simp only at c0 c1 c2 c3 c4 c5 hnd
      subst hnd
      have HTH := Lib.hid hth
      have tcr := cell_of (o := 0) HTR.out.1
      simp at tcr
      have ptr := Pre.mk (heap_lt HTR.out.1)
      clear hth
      go_wp2
      refine wp_region_seq 8 Tryz.mixed (by kernel_rfl) (by kernel_rfl) ?_
      iterate 8
        apply Seq.val
        focus
          rintro w1 u ⟨R1, n1, rfl⟩ hF
          simp [moreFacts, Fact.more, Oper.deps, Region.binds, List.filter_cons, World.more_drew] at hF
          simp [putFacts, Oper.deps, Region.binds, List.filter_cons, Region.dstOf, Fact.at, Act.put, World.more_drew]
          go_wp2
          exact ⟨by repeat (first | with_reducible exact Grew.refl _ | apply Grew.more | apply Grew.alloc | apply Grew.drew | apply Grew.drewN), rfl, _, _, rfl, rfl, rfl⟩
      rintro u w1 ⟨R1, n1, rfl⟩ hF
      clear hF
      simp [putFacts, Region.dstOf, Fact.at, Act.put, List.range_succ, World.more_drew]
      refine wpList_tabDel (w0 := w0) rfl (.tmp 20) (.tmp 24) rfl (HGR.out.trans (by repeat (first | with_reducible exact Grew.refl _ | apply Grew.more | apply Grew.alloc | apply Grew.drew | apply Grew.drewN))) hb rfl (HTR.out.2.grew (by repeat (first | with_reducible exact Grew.refl _ | apply Grew.more | apply Grew.alloc | apply Grew.drew | apply Grew.drewN))) ⟨xn, ky, (p0, q0), (p1, q1)⟩ HTH.out rfl ?_
      intro W5 h5 g5 k5
      have H5 := Lib.hid h5
      have G5 := Lib.hid g5
      have K5 := Lib.hid k5
      clear h5 g5 k5
      go_wp2
      go_roundg (s.length - (k + 1))
      case measure => omega
      case rel => exact ⟨k + 1, by omega, by omega, by go_num, Lib.hid ⟨by rw [K5.out.2 t (by have := heap_lt HTR.out.1; simp [go_sem]; omega) HNE.out]; exact (HTR.out.grew (by repeat (first | with_reducible exact Grew.refl _ | apply Grew.more | apply Grew.alloc | apply Grew.drew | apply Grew.drewN))).1, by rw [HNS.out]; exact H5.out⟩, G5, Lib.hid (HKR.out.trans ((Keep.ofGrew (by repeat (first | with_reducible exact Grew.refl _ | apply Grew.more | apply Grew.alloc | apply Grew.drew | apply Grew.drewN))).trans K5.out))⟩
    · obtain rfl : k = s.length := by omega
      have hT := HTR.out
      rw [List.take_length, lessT_of HU.out.un HP.out] at hT
      have HT9 := Lib.hid hT
      clear hT
      go_wp2
      refine bodyPost_ret (v := .tuple #[]) (by simp [results, Tryz.results25, go_sem]) rfl ?_
      exact ⟨rfl, HT9.out, HGR.out, (Keep.ofGrew HG1.out).trans HKR.out⟩
end Go.Proofs.YtmdmbimfdpngaaaGreatDoor

/-! Entries that are not one. -/
namespace Go.Proofs.YtmdmbimfdpngaaaGreatDoor
set_option linter.unusedSimpArgs false
set_option linter.unusedVariables false
open Go.RowKit Ga
set_option maxRecDepth 100000

theorem arr2_eq (d : Nat) (a b c e a' b' c' e' : Int) (w : World) : (Op.equalIn (d + 4) 48 (.agg #[.int .i64 a, .int .i64 b, .int .i64 c, .int .i64 e]) (.agg #[.int .i64 a', .int .i64 b', .int .i64 c', .int .i64 e'])).run Tryz.prog w = .ok (decide (a = a' ∧ b = b' ∧ c = c' ∧ e = e')) w := by
  obtain ⟨i, hi, _⟩ := info_parts infoCV
  have h0 := run_equalIn_array (P := Tryz.prog) (w := w) (d + 3) #[.int .i64 a, .int .i64 b, .int .i64 c, .int .i64 e] #[.int .i64 a', .int .i64 b', .int .i64 c', .int .i64 e'] Tryz.underlying48 hi
  rw [h0, show List.range 2 = [0, 1] from rfl, cellsCV]
  simp [Op.eqItems, go_sem, Tryz.underlying47, Tryz.underlying3]
  by_cases h1 : a = a' <;> by_cases h2 : b = b' <;> by_cases h3 : c = c' <;> by_cases h4 : e = e' <;> simp [h1, h2, h3, h4]
theorem run_neq_Ens (nd ky p0 q0 p1 q1 nd' ky' p0' q0' p1' q1' : Int) (r : Bool) (h : (!(decide (nd = nd' ∧ ky = ky' ∧ p0 = p0' ∧ q0 = q0' ∧ p1 = p1' ∧ q1 = q1'))) = r) (w : World) : (binOp .neq 53 (.agg #[.int .i64 nd, .int .i64 ky, .int .i64 p0, .int .i64 q0, .int .i64 p1, .int .i64 q1]) (.agg #[.int .i64 nd', .int .i64 ky', .int .i64 p0', .int .i64 q0', .int .i64 p1', .int .i64 q1'])).run Tryz.prog w = .ok (.bool r) w := by
  subst h
  simp [go_sem, arr2_eq, Tryz.underlying53, Tryz.underlying3]
  by_cases h0 : nd = nd' <;> by_cases h1 : ky = ky' <;> by_cases h2 : p0 = p0' <;> by_cases h3 : q0 = q0' <;> by_cases h4 : p1 = p1' <;> by_cases h5 : q1 = q1' <;> simp [h0, h1, h2, h3, h4, h5]
end Go.Proofs.YtmdmbimfdpngaaaGreatDoor
