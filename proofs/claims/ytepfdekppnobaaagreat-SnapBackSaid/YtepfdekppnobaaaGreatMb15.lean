import Derived.Test.YtepfdekppnobaaaGreatMb11
import Derived.ChangeKeysEq
/-! A map in memory, whatever its keys and values: a list of pairs, no key twice. -/
namespace Go.Proofs.YtepfdekppnobaaaGreat
set_option linter.unusedSimpArgs false
set_option linter.unusedVariables false
open Go.RowKit
set_option maxRecDepth 100000

/-- what a map's keys and values are -/
structure MSpec (κ ν : Type) where
  kt : TypeId
  law : Maps.Keyed Tryz.prog kt
  kenc : κ → Value
  kinj : ∀ a b, kenc a = kenc b → a = b
  ok : κ → Prop
  key : ∀ a, ok a → ∃ kl, keyOf Tryz.prog kt (kenc a) = some kl
  venc : ν → Value
  dat : ν → DataW Unit
  R : Value → Option (DataW Unit × List MemPlace)
  rmk : ∀ v, R (venc v) = some (dat v, [])
  rinv : ∀ u ps v, R u = some (dat v, ps) → u = venc v
structure MpD {κ ν : Type} (S : MSpec κ ν) (D : DataW Unit) (m : List (κ × ν)) : Prop where
  tidy : Maps.Tidy D
  has : ∀ kl, Maps.has D kl = true → ∃ x ∈ m, keyOf Tryz.prog S.kt (S.kenc x.1) = some kl
  at' : ∀ x ∈ m, ∀ kl, keyOf Tryz.prog S.kt (S.kenc x.1) = some kl → Maps.has D kl = true ∧ ∀ zd, D.atKey kl zd = S.dat x.2
  ok : ∀ x ∈ m, S.ok x.1
  un : m.Pairwise fun a b => a.1 ≠ b.1
  sz : Maps.size D = m.length
def MapAt {κ ν : Type} (S : MSpec κ ν) (W : World) (b n : Nat) (m : List (κ × ν)) : Prop := ∃ D : DataW Unit, W.ownsMap Tryz.prog S.kt S.R b n D ∧ MpD S D m
theorem MapAt.made {κ ν : Type} (S : MSpec κ ν) (W : World) : MapAt S (W.alloc (.map #[] 0)) W.heap.size 0 [] :=
  ⟨_, World.ownsMap_made _ _ _ _, ⟨Maps.tidy_empty, fun kl h => by simp [Maps.has] at h, fun p hp => (by cases hp), fun p hp => (by cases hp), List.Pairwise.nil, rfl⟩⟩
theorem MapAt.same {κ ν : Type} {S : MSpec κ ν} {W W' : World} {b n : Nat} {m : List (κ × ν)} (h : MapAt S W b n m) (hb : W'.heap[b]? = W.heap[b]?) : MapAt S W' b n m := by
  obtain ⟨D, ⟨es, c, h1, h2⟩, h3⟩ := h
  exact ⟨D, ⟨es, c, by rw [hb]; exact h1, h2⟩, h3⟩
theorem MapAt.lt {κ ν : Type} {S : MSpec κ ν} {W : World} {b n : Nat} {m : List (κ × ν)} (h : MapAt S W b n m) : b < W.heap.size := by
  obtain ⟨D, ho, _⟩ := h
  exact ho.lt
theorem MapAt.grew {κ ν : Type} {S : MSpec κ ν} {W W' : World} {b n : Nat} {m : List (κ × ν)} (h : MapAt S W b n m) (g : Grew W W') : MapAt S W' b n m := h.same (g.below.block b h.lt)
theorem MapAt.more {κ ν : Type} {S : MSpec κ ν} {W : World} {b n n' : Nat} {m : List (κ × ν)} (h : MapAt S W b n m) (hn : n ≤ n') : MapAt S W b n' m := by
  obtain ⟨D, ho, h2⟩ := h
  exact ⟨D, ho.mono hn, h2⟩
theorem MpD.fresh {κ ν : Type} {S : MSpec κ ν} {D : DataW Unit} {m : List (κ × ν)} (h : MpD S D m) {k : κ} (hk : ∀ x ∈ m, x.1 ≠ k) {kl : Lit} (hl : keyOf Tryz.prog S.kt (S.kenc k) = some kl) : Maps.has D kl = false := by
  cases hh : Maps.has D kl
  · rfl
  · obtain ⟨x, hx, hxk⟩ := h.has kl hh
    exact absurd (S.kinj _ _ (S.law.inj hxk hl)) (hk x hx)
theorem MpD.put {κ ν : Type} {S : MSpec κ ν} {D : DataW Unit} {m : List (κ × ν)} (h : MpD S D m) (k : κ) (v : ν) (hok : S.ok k) (hf : ∀ x ∈ m, x.1 ≠ k) {kl : Lit} (hk : keyOf Tryz.prog S.kt (S.kenc k) = some kl) : MpD S (D.put kl (S.dat v)) ((k, v) :: m) := by
  have hno := h.fresh hf hk
  refine ⟨h.tidy.put (S.law.key hk) _, fun k2 hh => ?_, fun y hy k2 hk2 => ?_, fun y hy => ?_, List.pairwise_cons.2 ⟨fun y hy e => hf y hy e.symm, h.un⟩, ?_⟩
  · by_cases e : k2 = kl
    · exact ⟨_, List.mem_cons_self .., by rw [e]; exact hk⟩
    · rw [Maps.has_put_other e] at hh
      obtain ⟨y, hy, hyk⟩ := h.has k2 hh
      exact ⟨y, List.mem_cons_of_mem _ hy, hyk⟩
  · rcases List.mem_cons.1 hy with rfl | hy
    · rw [hk] at hk2
      cases hk2
      exact ⟨Maps.has_put_same h.tidy.isMap (S.law.key hk) _, fun zd => Maps.atKey_put_same h.tidy.isMap (S.law.key hk) _ _⟩
    · have hne : k2 ≠ kl := fun e => hf y hy (S.kinj _ _ (S.law.inj (e ▸ hk2) hk))
      rw [Maps.has_put_other hne]
      exact ⟨(h.at' y hy k2 hk2).1, fun zd => by rw [Maps.atKey_put_other hne]; exact (h.at' y hy k2 hk2).2 zd⟩
  · rcases List.mem_cons.1 hy with rfl | hy
    · exact hok
    · exact h.ok y hy
  · rw [Maps.size_put h.tidy, hno, h.sz]
    rfl
theorem MapAt.put {κ ν : Type} {S : MSpec κ ν} {W : World} {b n : Nat} {m : List (κ × ν)} (h : MapAt S W b n m) (hn : n < maxLen) (k : κ) (v : ν) (hok : S.ok k) (hf : ∀ x ∈ m, x.1 ≠ k) {t e : TypeId} (ht : Tryz.prog.underlying t = some (.map S.kt e)) :
    ∃ W', (Instr.mapUpdate t (.map (some b)) (S.kenc k) (S.venc v)).run Tryz.prog W = .ok () W' ∧ MapAt S W' b (n + 1) ((k, v) :: m) ∧ W.mapTurned W' b := by
  obtain ⟨D, ho, hD⟩ := h
  obtain ⟨kl, hk⟩ := S.key k hok
  obtain ⟨W', hr, ho', hg⟩ := World.ownsMap.store ho S.law ht hn hk (S.rmk v)
  exact ⟨W', hr, ⟨_, ho', hD.put k v hok hf hk⟩, hg⟩
open Classical in
/-- what is kept of a key -/
noncomputable def mfind {κ ν : Type} (m : List (κ × ν)) (k : κ) : Option ν := (m.find? fun x => decide (x.1 = k)).map (·.2)
open Classical in
theorem mfind_no {κ ν : Type} {m : List (κ × ν)} {k : κ} (h : ∀ x ∈ m, x.1 ≠ k) : mfind m k = none := by
  unfold mfind
  rw [List.find?_eq_none.2 fun x hx => by simpa using h x hx]
  rfl
open Classical in
theorem mfind_is {κ ν : Type} {m : List (κ × ν)} {k : κ} {v : ν} (hu : m.Pairwise fun a b => a.1 ≠ b.1) (h : (k, v) ∈ m) : mfind m k = some v := by
  unfold mfind
  induction m with
  | nil => cases h
  | cons y m ih =>
    obtain ⟨h1, h2⟩ := List.pairwise_cons.1 hu
    rw [List.find?_cons]
    rcases List.mem_cons.1 h with rfl | h3
    · simp
    · rw [decide_eq_false (h1 _ h3)]
      exact ih h2 h3
theorem mfind_cases {κ ν : Type} (m : List (κ × ν)) (k : κ) : (∃ v, mfind m k = some v ∧ (k, v) ∈ m) ∨ (mfind m k = none ∧ ∀ x ∈ m, x.1 ≠ k) := by
  classical
  unfold mfind
  cases h : m.find? fun x => decide (x.1 = k) with
  | none =>
    refine .inr ⟨rfl, fun x hx => ?_⟩
    simpa using List.find?_eq_none.1 h x hx
  | some x =>
    have h1 := List.find?_some h
    have h2 := List.mem_of_find?_eq_some h
    obtain ⟨a, v⟩ := x
    simp only [decide_eq_true_eq] at h1
    subst h1
    exact .inl ⟨v, rfl, h2⟩
theorem MpD.found {κ ν : Type} {S : MSpec κ ν} {D : DataW Unit} {m : List (κ × ν)} (h : MpD S D m) {k : κ} {kl : Lit} (hl : keyOf Tryz.prog S.kt (S.kenc k) = some kl) (v0 : ν) : Maps.has D kl = (mfind m k).isSome ∧ D.atKey kl (S.dat v0) = S.dat ((mfind m k).getD v0) := by
  rcases mfind_cases m k with ⟨v, h1, h2⟩ | ⟨h1, h2⟩
  · obtain ⟨h3, h4⟩ := h.at' _ h2 kl hl
    rw [h1]
    exact ⟨h3, h4 _⟩
  · have h3 := h.fresh h2 hl
    rw [h1, h3]
    exact ⟨rfl, Maps.atKey_of_not_has h3 _⟩
theorem MapAt.look {κ ν : Type} {S : MSpec κ ν} {W : World} {b n : Nat} {m : List (κ × ν)} (h : MapAt S W b n m) (k : κ) (hok : S.ok k) {t e : TypeId} (ht : Tryz.prog.underlying t = some (.map S.kt e)) (v0 : ν) (hz : (zeroValue e).run Tryz.prog W = .ok (S.venc v0) W) :
    (Instr.lookup t (.map (some b)) (S.kenc k) false).run Tryz.prog W = .ok (S.venc ((mfind m k).getD v0)) W := by
  obtain ⟨D, ho, hD⟩ := h
  obtain ⟨kl, hk⟩ := S.key k hok
  obtain ⟨v, ps, hr, hR⟩ := World.ownsMap.lookup ho S.law ht hz (S.rmk v0) hk
  rw [(hD.found hk v0).2] at hR
  rw [hr, S.rinv _ _ _ hR]
theorem MapAt.lookOk {κ ν : Type} {S : MSpec κ ν} {W : World} {b n : Nat} {m : List (κ × ν)} (h : MapAt S W b n m) (k : κ) (hok : S.ok k) {t e : TypeId} (ht : Tryz.prog.underlying t = some (.map S.kt e)) (v0 : ν) (hz : (zeroValue e).run Tryz.prog W = .ok (S.venc v0) W) :
    (Instr.lookup t (.map (some b)) (S.kenc k) true).run Tryz.prog W = .ok (.tuple #[S.venc ((mfind m k).getD v0), .bool (mfind m k).isSome]) W := by
  obtain ⟨D, ho, hD⟩ := h
  obtain ⟨kl, hk⟩ := S.key k hok
  obtain ⟨v, ps, hr, hR⟩ := World.ownsMap.look_ok ho S.law ht hz (S.rmk v0) hk
  rw [(hD.found hk v0).2] at hR
  rw [hr, S.rinv _ _ _ hR, (hD.found hk v0).1]
theorem MapAt.len {κ ν : Type} {S : MSpec κ ν} {W : World} {b n : Nat} {m : List (κ × ν)} (h : MapAt S W b n m) {t e : TypeId} (ht : Tryz.prog.underlying t = some (.map S.kt e)) (ty : TypeId) :
    (Builtin.len_ #[t] ty #[.map (some b)]).run Tryz.prog W = .ok (.int .i64 m.length) W := by
  obtain ⟨D, ho, hD⟩ := h
  rw [ho.len ht ty, hD.sz]
theorem MapAt.len_le {κ ν : Type} {S : MSpec κ ν} {W : World} {b n : Nat} {m : List (κ × ν)} (h : MapAt S W b n m) : m.length ≤ n := by
  obtain ⟨D, ho, hD⟩ := h
  have := ho.size_le
  rw [hD.sz] at this
  exact this
theorem MapAt.un {κ ν : Type} {S : MSpec κ ν} {W : World} {b n : Nat} {m : List (κ × ν)} (h : MapAt S W b n m) : m.Pairwise fun a b => a.1 ≠ b.1 := by
  obtain ⟨D, ho, hD⟩ := h
  exact hD.un
theorem wpList_mapPut {κ ν : Type} {S : MSpec κ ν} {w0 W : World} {ops : Array Oper} {rest : List Oper} {o : Oper} {a : Act} {Q : Exit → Act → World → Prop} {b n : Nat} {M : List (κ × ν)}
    (hg : o.guard = none) (m k v : Operand) (t : TypeId) (hop : o.op = Op.mapUpdate t m k v) {e : TypeId} (ht : Tryz.prog.underlying t = some (.map S.kt e)) (hgr : Grew w0 W) (hb : w0.heap.size ≤ b)
    (hm : a.eval m = .map (some b)) (h : MapAt S W b n M) (hn : n < maxLen) (x : κ) (y : ν) (hok : S.ok x) (hf : ∀ z ∈ M, z.1 ≠ x) (hk : a.eval k = S.kenc x) (hv : a.eval v = S.venc y)
    (hK : ∀ W', MapAt S W' b (n + 1) ((x, y) :: M) → Grew w0 W' → Keep b W W' → wpList Tryz.prog ops Q rest (a.put o.dst undef) W') : wpList Tryz.prog ops Q (o :: rest) a W := by
  refine wpList_plain hg fun K' hK' => ?_
  obtain ⟨W', hrun, r1, r2⟩ := h.put hn x y hok hf ht
  unfold Oper.wp
  simp [execOp, hop, hm, hk, hv, hrun, Result.andThen]
  exact hK' _ _ (hK W' r1 (grew_turned hgr hb r2) (keep_turned r2))
end Go.Proofs.YtepfdekppnobaaaGreat

/-! cell.New: a table made of entries. -/
namespace Go.Proofs.YtepfdekppnobaaaGreat
set_option linter.unusedSimpArgs false
set_option linter.unusedVariables false
open Go.RowKit Ga
set_option maxRecDepth 100000

/-- an entry as it lies -/
def encEn (x : Tab.En) : List Value := [.int .i64 x.node, .int .i64 x.key, .int .i64 x.c0.1, .int .i64 x.c0.2, .int .i64 x.c1.1, .int .i64 x.c1.2]
theorem encEn_len (x : Tab.En) : (encEn x).length = 6 := rfl
theorem encEn_one (x : Tab.En) : ∀ u ∈ encEn x, u.oneCell' = true := by
  intro u hu
  simp [encEn] at hu
  rcases hu with rfl | rfl | rfl | rfl | rfl | rfl <;> rfl
abbrev EntsAt (w : World) (v : Value) (l : List Tab.En) : Prop := RowsAt 6 encEn w v l
theorem EntsAt.open6 {w : World} {v : Value} {l : List Tab.En} (h : EntsAt w v l) : ∃ a cap, v = .slice a l.length cap ∧ l.length ≤ 9223372036854775807 ∧ ∀ i (hi : i < l.length), ∃ b off, a = some ⟨b, off, none⟩ ∧ Pre b w ∧
    w.cell? ⟨b, off + i * 6, none⟩ = some (.int .i64 l[i].node) ∧ w.cell? ⟨b, off + i * 6 + 1, none⟩ = some (.int .i64 l[i].key) ∧ w.cell? ⟨b, off + i * 6 + 2, none⟩ = some (.int .i64 l[i].c0.1) ∧ w.cell? ⟨b, off + i * 6 + 3, none⟩ = some (.int .i64 l[i].c0.2) ∧ w.cell? ⟨b, off + i * 6 + 4, none⟩ = some (.int .i64 l[i].c1.1) ∧ w.cell? ⟨b, off + i * 6 + 5, none⟩ = some (.int .i64 l[i].c1.2) := by
  obtain ⟨a, cap, rfl, hm, hx⟩ := h
  refine ⟨a, cap, rfl, by unfold maxLen at hm; omega, fun i hi => ?_⟩
  obtain ⟨b, off, rfl, hc⟩ := hx (by intro e; subst e; simp at hi)
  have hj := fun j u => hc i l[i] (List.getElem?_eq_getElem hi) j u
  have h0 := hj 0 _ rfl
  exact ⟨b, off, rfl, Pre.mk (World.block_lt_of_cell? w _ h0), h0, hj 1 _ rfl, hj 2 _ rfl, hj 3 _ rfl, hj 4 _ rfl, hj 5 _ rfl⟩
theorem tabSet_c (w0 W : World) (t b n : Nat) (m : List Tab.En) (nd ky p0 q0 p1 q1 : Int) (hT : TableAt W t b n m) (hg : Grew w0 W) (hb : w0.heap.size ≤ b) (hn : n < maxLen) :
    Calls Tryz.prog 116 #[.pointer (some ⟨t, 0, none⟩), .int .i64 nd, .int .i64 ky, .agg #[.int .i64 p0, .int .i64 q0, .int .i64 p1, .int .i64 q1]] W (SetPost w0 W t b n (setR m ⟨nd, ky, (p0, q0), (p1, q1)⟩)) := tabSet_any w0 W t b n m ⟨nd, ky, (p0, q0), (p1, q1)⟩ hT hg hb hn
def newOk (l : List Tab.En) : Bool := l.all okEn
theorem newOk_false {l : List Tab.En} {k : Nat} (hk : k < l.length) (h : okEn l[k] = false) : newOk l = false := by
  unfold newOk
  rw [List.all_eq_false]
  exact ⟨_, List.getElem_mem hk, by rw [h]; simp⟩
theorem newT_succ {l : List Tab.En} {k : Nat} (hk : k < l.length) : Tab.newT (l.take (k + 1)) = Tab.setT (Tab.newT (l.take k)) l[k] := by
  rw [List.take_succ_eq_append_getElem hk, Tab.newT_snoc]
/-- a table, or none -/
def NewPost (l : List Tab.En) (w : World) (e : Ending) (w' : World) : Prop :=
  (newOk l = true ∧ ∃ t b, e = .returned (.tuple #[.pointer (some ⟨t, 0, none⟩), .int .i64 0]) ∧ TableAt w' t b l.length (Tab.newT l) ∧ w.heap.size ≤ t ∧ w.heap.size ≤ b ∧ Grew w w') ∨
  (newOk l = false ∧ e = .returned (.tuple #[.pointer none, .int .i64 1]) ∧ Grew w w')
set_option maxHeartbeats 8000000 in
theorem tabNew_any (v : Value) (l : List Tab.En) (w : World) (hv : EntsAt w v l) (hl : l.length ≤ 100000) : Calls Tryz.prog 81 #[v] w (NewPost l w) := by
  have HV := Lib.hid hv
  obtain ⟨a, cap, rfl, hm, -⟩ := EntsAt.open6 hv
  have hmm := @run_makeMap Tryz.prog
  clear hv
  go_enter Tryz.func81, Tryz.ntmps81
  go_wp2
  have HT0 : Hid (TableAt ((w.alloc (.map #[] 0)).alloc (.cells #[.map (some w.heap.size)] 191)) (w.heap.size + 1) w.heap.size 0 []) := Lib.hid ⟨heap_new_at _ _ _ (by simp [World.size_alloc]), (TabAt.made w).grew (by repeat (first | with_reducible exact Grew.refl _ | apply Grew.more | apply Grew.alloc | apply Grew.drew | apply Grew.drewN))⟩
  clear hmm
  go_loopg [13] l.length (fun gg s13 wr => ∃ k : Nat, k ≤ l.length ∧ l.length - k ≤ gg ∧ s13 = .int .i64 k ∧ Hid (TableAt wr (w.heap.size + 1) w.heap.size k (Tab.newT (l.take k))) ∧ Hid (Grew w wr) ∧ Hid (∀ i (h : i < l.length), i < k → okEn l[i] = true))
  case atStart => exact ⟨0, by omega, by omega, rfl, HT0, Lib.hid (by repeat (first | with_reducible exact Grew.refl _ | apply Grew.more | apply Grew.alloc | apply Grew.drew | apply Grew.drewN)), Lib.hid fun i _ h => by omega⟩
  case round =>
    obtain ⟨k, hk, hgg, rfl, HT, HG, HOK⟩ := hrel
    by_cases hlt : k < l.length
    · obtain ⟨a', cap', e, -, hx⟩ := EntsAt.open6 (HV.out.grew HG.out)
      cases e
      obtain ⟨b, off, rfl, hb, c0, c1, c2, c3, c4, c5⟩ := hx k hlt
      have HNS := Lib.hid (newT_succ hlt)
      have HNF := Lib.hid fun h => newOk_false hlt h
      have HKX : Hid (okEn l[k] = true → ∀ i (hi : i < l.length), i < k + 1 → okEn l[i] = true) := Lib.hid fun h i hi h2 => (Nat.lt_or_ge i k).elim (HOK.out i hi) fun h3 => by
        obtain rfl : i = k := by omega
        exact h
      clear hx
      generalize l[k] = x at *
      obtain ⟨nd, ky, ⟨p0, q0⟩, ⟨p1, q1⟩⟩ := x
      simp only at c0 c1 c2 c3 c4 c5
      have HS := Lib.hid fun W (g : Grew wr W) => tabSet_c w W (w.heap.size + 1) w.heap.size k _ nd ky p0 q0 p1 q1 (HT.out.grew g) (HG.out.trans g) (Nat.le_refl _) (by unfold maxLen; omega)
      cases hok : okEn ⟨nd, ky, (p0, q0), (p1, q1)⟩
      · have hr : setR (Tab.newT (l.take k)) ⟨nd, ky, (p0, q0), (p1, q1)⟩ = (1, Tab.newT (l.take k)) := by unfold setR; rw [hok]; rfl
        rw [hr] at HS
        have HNF2 := Lib.hid (HNF.out hok)
        clear hok hr
        go_wp2_with (go_at_call 116; refine (HS.out _ (by repeat (first | with_reducible exact Grew.refl _ | apply Grew.more | apply Grew.alloc | apply Grew.drew | apply Grew.drewN))).mono ?_; rintro e w1 ⟨rfl, h1, hg1, hk1⟩; (have HG1 := Lib.hid hg1); clear h1 hg1 hk1; simp only)
        go_ret2
        exact .inr ⟨HNF2.out, rfl, HG1.out⟩
      · have hr : setR (Tab.newT (l.take k)) ⟨nd, ky, (p0, q0), (p1, q1)⟩ = (0, Tab.setT (Tab.newT (l.take k)) ⟨nd, ky, (p0, q0), (p1, q1)⟩) := by unfold setR; rw [hok]; rfl
        rw [hr] at HS
        have HKX2 := Lib.hid (HKX.out hok)
        clear hok hr
        go_wp2_with (go_at_call 116; refine (HS.out _ (by repeat (first | with_reducible exact Grew.refl _ | apply Grew.more | apply Grew.alloc | apply Grew.drew | apply Grew.drewN))).mono ?_; rintro e w1 ⟨rfl, h1, hg1, hk1⟩; (have HG1 := Lib.hid hg1); (have HT1 := Lib.hid h1); clear h1 hg1 hk1; simp only)
        go_roundg (l.length - (k + 1))
        case measure => omega
        case rel => exact ⟨k + 1, by omega, by omega, by go_num, Lib.hid (by rw [HNS.out]; exact HT1.out), HG1, HKX2⟩
    · obtain rfl : k = l.length := by omega
      have hT := HT.out
      rw [List.take_length] at hT
      have HT9 := Lib.hid hT
      clear hT
      go_wp2
      go_ret2
      refine .inl ⟨?_, _, _, rfl, HT9.out, by omega, Nat.le_refl _, HG.out⟩
      unfold newOk
      rw [List.all_eq_true]
      intro x hx
      obtain ⟨i, hi, rfl⟩ := List.mem_iff_getElem.1 hx
      exact HOK.out i hi hi
end Go.Proofs.YtepfdekppnobaaaGreat

/-! Entries that are not one. -/
namespace Go.Proofs.YtepfdekppnobaaaGreat
set_option linter.unusedSimpArgs false
set_option linter.unusedVariables false
open Go.RowKit Ga
set_option maxRecDepth 100000

theorem arr2_eq (d : Nat) (a b c e a' b' c' e' : Int) (w : World) : (Op.equalIn (d + 4) 52 (.agg #[.int .i64 a, .int .i64 b, .int .i64 c, .int .i64 e]) (.agg #[.int .i64 a', .int .i64 b', .int .i64 c', .int .i64 e'])).run Tryz.prog w = .ok (decide (a = a' ∧ b = b' ∧ c = c' ∧ e = e')) w := by
  obtain ⟨i, hi, _⟩ := info_parts infoCV
  have h0 := run_equalIn_array (P := Tryz.prog) (w := w) (d + 3) #[.int .i64 a, .int .i64 b, .int .i64 c, .int .i64 e] #[.int .i64 a', .int .i64 b', .int .i64 c', .int .i64 e'] Tryz.underlying52 hi
  rw [h0, show List.range 2 = [0, 1] from rfl, cellsCV]
  simp [Op.eqItems, go_sem, Tryz.underlying51, Tryz.underlying3]
  by_cases h1 : a = a' <;> by_cases h2 : b = b' <;> by_cases h3 : c = c' <;> by_cases h4 : e = e' <;> simp [h1, h2, h3, h4]
theorem val_eq (d : Nat) (a b a' b' : Int) (w : World) : (Op.equalIn (d + 4) 51 (.agg #[.int .i64 a, .int .i64 b]) (.agg #[.int .i64 a', .int .i64 b'])).run Tryz.prog w = .ok (decide (a = a' ∧ b = b')) w := by
  simp [go_sem, Tryz.underlying51, Tryz.underlying3]
  by_cases h1 : a = a' <;> by_cases h2 : b = b' <;> simp [h1, h2]
theorem run_neq_Ens (nd ky p0 q0 p1 q1 nd' ky' p0' q0' p1' q1' : Int) (r : Bool) (h : (!(decide (nd = nd' ∧ ky = ky' ∧ p0 = p0' ∧ q0 = q0' ∧ p1 = p1' ∧ q1 = q1'))) = r) (w : World) : (binOp .neq 57 (.agg #[.int .i64 nd, .int .i64 ky, .int .i64 p0, .int .i64 q0, .int .i64 p1, .int .i64 q1]) (.agg #[.int .i64 nd', .int .i64 ky', .int .i64 p0', .int .i64 q0', .int .i64 p1', .int .i64 q1'])).run Tryz.prog w = .ok (.bool r) w := by
  subst h
  simp [go_sem, arr2_eq, Tryz.underlying57, Tryz.underlying3]
  by_cases h0 : nd = nd' <;> by_cases h1 : ky = ky' <;> by_cases h2 : p0 = p0' <;> by_cases h3 : q0 = q0' <;> by_cases h4 : p1 = p1' <;> by_cases h5 : q1 = q1' <;> simp [h0, h1, h2, h3, h4, h5]
end Go.Proofs.YtepfdekppnobaaaGreat
