import Derived.Test.YtmdmbimfdpngaaaGreatMs35
import Derived.Deep.DeepCutAuto
import Derived.Deep.CutBlock
import Derived.Deep.LoopGhost
import Derived.StillTailTactics
import Derived.Deep.QuietTactic
import Derived.BigQuiet
import Derived.Deep.RegionHeld3
/-! What lies in memory while all ways are gone. -/
namespace Go.Proofs.YtmdmbimfdpngaaaGreat
set_option linter.unusedSimpArgs false
set_option linter.unusedVariables false
open Go.RowKit Ga
set_option maxRecDepth 100000

theorem right_jump {x y : Int} (h : Co.rightI (x, y) = true) : x = 15 ∨ x = 16 → y ≤ 24 := by
  unfold Co.rightI Co.lo Co.hi at h
  simp only [Bool.and_eq_true, decide_eq_true_eq] at h
  grind
def encP (x : Pl) : List Value := [.int .i64 x.1, .int .i64 x.2.1, .int .i64 x.2.2]
theorem infoPl : (Tryz.prog.info? 150).map (fun i => (i.zero, i.size, i.bytes)) = some (some (.agg #[.int .i64 0, .int .i64 0, .int .i64 0]), 3, 24) := by kernel_rfl
theorem encP_len (x : Pl) : (encP x).length = 3 := rfl
theorem encP_one (x : Pl) : ∀ u ∈ encP x, u.oneCell' = true := by
  intro u hu; simp [encP] at hu; rcases hu with rfl | rfl | rfl <;> rfl
def encD (d : Int) : List Value := [.int .i64 d]
theorem encD_len (d : Int) : (encD d).length = 1 := rfl
theorem encD_one (d : Int) : ∀ u ∈ encD d, u.oneCell' = true := by intro u hu; simp [encD] at hu; subst hu; rfl
theorem flatD : ∀ (l : List Int), l.flatMap encD = l.map (Value.int .i64)
  | [] => rfl
  | d :: l => by rw [List.flatMap_cons, flatD l]; rfl

theorem SetAt.obj {W : World} {b n : Nat} {M : List Pl} (h : SetAt W b n M) : ∃ es c, W.heap[b]? = some (.map es c) := by
  obtain ⟨D, ⟨es, c, h1, _⟩, _⟩ := h
  exact ⟨es, c, h1⟩
theorem SetAt.ne {W : World} {b n g : Nat} {M : List Pl} {c : Array Value} {t : TypeId} (h : SetAt W b n M) (hg : W.heap[g]? = some (.cells c t)) : g ≠ b := by
  rintro rfl
  obtain ⟨es, k, h1⟩ := h.obj
  rw [hg] at h1
  cases h1
theorem SetAt.lt {W : World} {b n : Nat} {M : List Pl} (h : SetAt W b n M) : b < W.heap.size := by
  obtain ⟨es, k, h1⟩ := h.obj
  exact heap_lt h1

theorem OwnAt.setD {base : Nat} {e : TypeId} {w : World} {b n cap k : Nat} {l : List Int} (h : OwnAt base e 1 encD w (.slice (some ⟨b, 0, none⟩) n cap) l) (hk : k < l.length) (d : Int) : OwnAt base e 1 encD (w.setCell ⟨b, k, none⟩ (.int .i64 d)) (.slice (some ⟨b, 0, none⟩) n cap) (l.set k d) := by
  obtain ⟨h1, h2⟩ := h
  refine ⟨by rw [flat_length encD_len, List.length_set], ?_⟩
  rcases h2 with ⟨h, _⟩ | ⟨g, cap', cur, hv, hb, hh, hc, hm, hs, ht⟩
  · cases h
  · cases hv
    refine .inr ⟨b, cap, cur.setIfInBounds k (.int .i64 d), by rw [List.length_set], hb, set_self hh, by rw [List.length_set]; exact hc, hm, by rw [Array.size_setIfInBounds]; exact hs, ?_⟩
    rw [List.length_set, flatD, Array.toList_setIfInBounds, List.take_set, ht, flatD, List.map_set]
theorem ownD_at {base : Nat} {e : TypeId} {w : World} {v : Value} {l : List Int} (h : OwnAt base e 1 encD w v l) {k : Nat} (hk : k < l.length) : ∃ b cap cur, v = .slice (some ⟨b, 0, none⟩) l.length cap ∧ base ≤ b ∧ w.heap[b]? = some (.cells cur e) ∧ w.cell? ⟨b, k, none⟩ = some (.int .i64 (l.getD k (-1))) := by
  obtain ⟨h1, h2⟩ := h
  rcases h2 with ⟨_, h⟩ | ⟨g, cap', cur, hv, hb, hh, hc, hm, hs, ht⟩
  · omega
  · refine ⟨g, cap', cur, hv, hb, hh, ?_⟩
    rw [cell_of hh]
    have h3 : (cur.toList.take (l.length * 1))[k]? = some (Value.int .i64 (l.getD k (-1))) := by
      rw [ht, flatD, List.getElem?_map, List.getElem?_eq_getElem hk, List.getD_eq_getElem?_getD, List.getElem?_eq_getElem hk]
      rfl
    rw [List.getElem?_take] at h3
    split at h3
    · rw [← Array.getElem?_toList]; exact h3
    · cases h3
theorem ownP_last {base : Nat} {e : TypeId} {w : World} {v : Value} {l : List Pl} {x : Pl} (h : OwnAt base e 3 encP w v (l ++ [x])) : ∃ b cap cur, v = .slice (some ⟨b, 0, none⟩) (l.length + 1) cap ∧ base ≤ b ∧ l.length + 1 ≤ cap ∧ w.heap[b]? = some (.cells cur e) ∧ w.cell? ⟨b, l.length * 3, none⟩ = some (.int .i64 x.1) ∧ w.cell? ⟨b, l.length * 3 + 1, none⟩ = some (.int .i64 x.2.1) ∧ w.cell? ⟨b, l.length * 3 + 2, none⟩ = some (.int .i64 x.2.2) := by
  have hr := h.rows encP_len
  obtain ⟨h1, h2⟩ := h
  rcases h2 with ⟨_, h⟩ | ⟨g, cap', cur, hv, hb, hh, hc, hm, hs, ht⟩
  · simp at h
  · rw [List.length_append] at hv hc
    refine ⟨g, cap', cur, hv, hb, hc, hh, ?_⟩
    have hflat : ∀ j u, ((l ++ [x]).flatMap encP)[j]? = some u → w.cell? ⟨g, j, none⟩ = some u := by
      intro j u hj
      rw [← ht, List.getElem?_take] at hj
      split at hj
      · rw [cell_of hh, ← Array.getElem?_toList]; exact hj
      · cases hj
    have hat : ∀ r, r < 3 → ((l ++ [x]).flatMap encP)[l.length * 3 + r]? = (encP x)[r]? := by
      intro r hr
      rw [List.flatMap_append, List.getElem?_append_right (by rw [flat_length encP_len]; omega), flat_length encP_len]
      simp
    exact ⟨hflat _ _ (hat 0 (by decide)), hflat _ _ (hat 1 (by decide)), hflat _ _ (hat 2 (by decide))⟩

/-- What lies in memory while all ways are gone. -/
structure GoneAt (w : World) (b2 b3 bm n : Nat) (wr : World) (vd vt : Value) (dep : List Int) (mx em : Int) (u0 u1 : Bool) (T M : List Pl) : Prop where
  g : Grew w wr
  n1 : b2 ≠ b3
  h2 : w.heap.size ≤ b2
  h3 : w.heap.size ≤ b3
  hm : w.heap.size ≤ bm
  c2 : wr.heap[b2]? = some (.cells #[.slice none 0 0, .int .i64 0, .int .i64 0, .bool false, .bool false, .bool false] 93)
  c3 : wr.heap[b3]? = some (.cells #[vd, .int .i64 mx, .int .i64 em, .bool u0, .bool u1, .bool true] 93)
  d : OwnAt w.heap.size 3 1 encD wr vd dep
  t : OwnAt w.heap.size 150 3 encP wr vt T
  s : SetAt wr bm n M
section
variable {w wr W W' : World} {b2 b3 bm n : Nat} {vd vt v' : Value} {dep : List Int} {mx em : Int} {u0 u1 : Bool} {T M : List Pl}
theorem GoneAt.grew (h : GoneAt w b2 b3 bm n wr vd vt dep mx em u0 u1 T M) (g : Grew wr W) : GoneAt w b2 b3 bm n W vd vt dep mx em u0 u1 T M :=
  ⟨h.g.trans g, h.n1, h.h2, h.h3, h.hm, grew_heap g h.c2, grew_heap g h.c3, h.d.grew g, h.t.grew g, h.s.same (g.below.block bm h.s.lt)⟩
theorem GoneAt.setK (h : GoneAt w b2 b3 bm n wr vd vt dep mx em u0 u1 T M) (o : Nat) (v : Value) (mx' em' : Int) (u0' u1' : Bool) (hc : (#[vd, .int .i64 mx, .int .i64 em, .bool u0, .bool u1, .bool true] : Array Value).setIfInBounds o v = #[vd, .int .i64 mx', .int .i64 em', .bool u0', .bool u1', .bool true]) : GoneAt w b2 b3 bm n (wr.setCell ⟨b3, o, none⟩ v) vd vt dep mx' em' u0' u1' T M where
  g := h.g.set h.h3 _
  n1 := h.n1
  h2 := h.h2
  h3 := h.h3
  hm := h.hm
  c2 := by rw [set_other h.n1.symm]; exact h.c2
  c3 := by rw [set_self h.c3, hc]
  d := h.d.same fun q hq => set_other fun e => h.d.other h.c3 (by decide) (e ▸ hq)
  t := h.t.same fun q hq => set_other fun e => h.t.other h.c3 (by decide) (e ▸ hq)
  s := h.s.same (set_other (h.s.ne h.c3))
/-- a write to a block that is none of these -/
theorem GoneAt.other (h : GoneAt w b2 b3 bm n wr vd vt dep mx em u0 u1 T M) (hg : Grew w W) (hs : ∀ q, q < wr.heap.size → vt.ownBlock ≠ some q → q ≠ bm → W.heap[q]? = wr.heap[q]?) (ht : OwnAt w.heap.size 150 3 encP W v' T) (hm : SetAt W bm n M) : GoneAt w b2 b3 bm n W vd v' dep mx em u0 u1 T M where
  g := hg
  n1 := h.n1
  h2 := h.h2
  h3 := h.h3
  hm := h.hm
  c2 := (hs b2 (heap_lt h.c2) (h.t.other h.c2 (by decide)) (h.s.ne h.c2)).trans h.c2
  c3 := (hs b3 (heap_lt h.c3) (h.t.other h.c3 (by decide)) (h.s.ne h.c3)).trans h.c3
  d := h.d.same fun q hq => by
    obtain ⟨_, c, hc⟩ := h.d.block hq
    exact hs q (heap_lt hc) (h.t.other hc (by decide)) (h.s.ne hc)
  t := ht
  s := hm
theorem GoneAt.pushT (h : GoneAt w b2 b3 bm n wr vd vt dep mx em u0 u1 T M) (g : Grew wr W) {T' : List Pl} (hA : Appended w 150 3 encP W vt T' v' W') : GoneAt w b2 b3 bm n W' vd v' dep mx em u0 u1 T' M := by
  have h' := h.grew g
  obtain ⟨a1, a2, a3, a4, a5⟩ := hA
  have hb : ∀ q, q < W.heap.size → vt.ownBlock ≠ some q → W'.heap[q]? = W.heap[q]? := a4
  refine ⟨a1, h.n1, h.h2, h.h3, h.hm, ?_, ?_, ?_, a2, ?_⟩
  · exact (hb b2 (heap_lt h'.c2) (h'.t.other h'.c2 (by decide))).trans h'.c2
  · exact (hb b3 (heap_lt h'.c3) (h'.t.other h'.c3 (by decide))).trans h'.c3
  · refine h'.d.same fun q hq => ?_
    obtain ⟨_, c, hc⟩ := h'.d.block hq
    exact hb q (heap_lt hc) (h'.t.other hc (by decide))
  · refine h'.s.same (hb bm h'.s.lt fun e => ?_)
    obtain ⟨_, c, hc⟩ := h'.t.block e
    exact h'.s.ne hc rfl
theorem GoneAt.pushD (h : GoneAt w b2 b3 bm n wr vd vt dep mx em u0 u1 T M) (g : Grew wr W) {dep' : List Int} (hA : Appended w 3 1 encD W vd dep' v' W') : GoneAt w b2 b3 bm n (W'.setCell ⟨b3, 0, none⟩ v') v' vt dep' mx em u0 u1 T M := by
  have h' := h.grew g
  obtain ⟨a1, a2, a3, a4, a5⟩ := hA
  have hb : ∀ q, q < W.heap.size → vd.ownBlock ≠ some q → W'.heap[q]? = W.heap[q]? := a4
  have e3 := (hb b3 (heap_lt h'.c3) (h'.d.other h'.c3 (by decide))).trans h'.c3
  have et : ∀ q, vt.ownBlock = some q → W'.heap[q]? = W.heap[q]? := fun q hq => by
    obtain ⟨_, c, hc⟩ := h'.t.block hq
    exact hb q (heap_lt hc) (h'.d.other hc (by decide))
  have es : W'.heap[bm]? = W.heap[bm]? := hb bm h'.s.lt fun e => by
    obtain ⟨_, c, hc⟩ := h'.d.block e
    exact h'.s.ne hc rfl
  refine ⟨a1.set h.h3 _, h.n1, h.h2, h.h3, h.hm, ?_, ?_, ?_, ?_, ?_⟩
  · rw [set_other h.n1.symm]
    exact (hb b2 (heap_lt h'.c2) (h'.d.other h'.c2 (by decide))).trans h'.c2
  · rw [set_self e3]; rfl
  · exact a2.same fun q hq => set_other fun e => a2.other e3 (by decide) (e ▸ hq)
  · have ht := h'.t.same et
    exact ht.same fun q hq => set_other fun e => ht.other e3 (by decide) (e ▸ hq)
  · have hs := h'.s.same es
    exact hs.same (set_other (hs.ne e3))
theorem GoneAt.at3 (h : GoneAt w b2 b3 bm n wr vd vt dep mx em u0 u1 T M) (g : Grew wr W) {dep' : List Int} (hA : Appended w 3 1 encD W vd dep' v' W') : W'.heap[b3]? = some (.cells #[vd, .int .i64 mx, .int .i64 em, .bool u0, .bool u1, .bool true] 93) := by
  have h' := h.grew g
  exact (hA.2.2.2.1 b3 (heap_lt h'.c3) (h'.d.other h'.c3 (by decide))).trans h'.c3
theorem own_slice' {α : Type} {base : Nat} {e : TypeId} {k : Nat} {enc : α → List Value} {w : World} {v : Value} {l : List α} (h : OwnAt base e k enc w v l) : ∃ a c, v = .slice a l.length c := by
  rcases h.form with ⟨h1, h2⟩ | ⟨b, c, h1, _⟩
  · exact ⟨none, 0, by rw [h1, h2]; rfl⟩
  · exact ⟨_, c, h1⟩
theorem own_sliceU {α : Type} {base : Nat} {e : TypeId} {k : Nat} {enc : α → List Value} {w : World} {v : Value} {l : List α} {x : α} (h : OwnAt base e k enc w v (l ++ [x])) : ∃ a c, v = .slice a (l.length + 1) c := by
  obtain ⟨a, c, h⟩ := own_slice' h
  exact ⟨a, c, by rw [h, List.length_append]; rfl⟩
theorem own_slice2 {α : Type} {base : Nat} {e : TypeId} {k : Nat} {enc : α → List Value} {w : World} {v : Value} {l : List α} {x y : α} (h : OwnAt base e k enc w v (l ++ [x] ++ [y])) : ∃ a c, v = .slice a (l.length + 1 + 1) c := by
  obtain ⟨a, c, h⟩ := own_slice' h
  exact ⟨a, c, by rw [h, List.length_append, List.length_append]; rfl⟩
theorem GoneAt.setDep {bd cap k : Nat} {nd : Nat} (h : GoneAt w b2 b3 bm n wr (.slice (some ⟨bd, 0, none⟩) nd cap) vt dep mx em u0 u1 T M) (hk : k < dep.length) (d : Int) : GoneAt w b2 b3 bm n (wr.setCell ⟨bd, k, none⟩ (.int .i64 d)) (.slice (some ⟨bd, 0, none⟩) nd cap) vt (dep.set k d) mx em u0 u1 T M := by
  obtain ⟨hbd, c, hc⟩ := h.d.block rfl
  have hne : ∀ {q : Nat} {cq : Array Value} {t : TypeId}, wr.heap[q]? = some (.cells cq t) → t ≠ 3 → bd ≠ q := by
    rintro q cq t hq ht rfl
    rw [hc] at hq
    cases hq
    exact ht rfl
  refine ⟨h.g.set hbd _, h.n1, h.h2, h.h3, h.hm, ?_, ?_, OwnAt.setD h.d hk d, ?_, ?_⟩
  · rw [set_other (hne h.c2 (by decide))]; exact h.c2
  · rw [set_other (hne h.c3 (by decide))]; exact h.c3
  · refine h.t.same fun q hq => ?_
    obtain ⟨_, cq, hcq⟩ := h.t.block hq
    exact set_other (hne hcq (by decide))
  · exact h.s.same (set_other (h.s.ne hc))
theorem GoneAt.cutT {b cap : Nat} {x : Pl} {nt nt' : Nat} (h : GoneAt w b2 b3 bm n wr vd (.slice (some ⟨b, 0, none⟩) nt cap) dep mx em u0 u1 (T ++ [x]) M) (hn : nt' = T.length) : GoneAt w b2 b3 bm n wr vd (.slice (some ⟨b, 0, none⟩) nt' cap) dep mx em u0 u1 T M := by
  subst hn
  have := h.t.cut encP_len (m := T.length) (by simp)
  rw [List.take_left'  rfl] at this
  exact { h with t := this }
theorem GoneAt.addM {x : Pl} (h : GoneAt w b2 b3 bm n wr vd vt dep mx em u0 u1 T M) (hs : SetAt W bm (n + 1) (x :: M)) (hg : Grew w W) (hb : ∀ q, q < wr.heap.size → q ≠ bm → W.heap[q]? = wr.heap[q]?) : GoneAt w b2 b3 bm (n + 1) W vd vt dep mx em u0 u1 T (x :: M) where
  g := hg
  n1 := h.n1
  h2 := h.h2
  h3 := h.h3
  hm := h.hm
  c2 := (hb b2 (heap_lt h.c2) (h.s.ne h.c2)).trans h.c2
  c3 := (hb b3 (heap_lt h.c3) (h.s.ne h.c3)).trans h.c3
  d := h.d.same fun q hq => by
    obtain ⟨_, c, hc⟩ := h.d.block hq
    exact hb q (heap_lt hc) (h.s.ne hc)
  t := h.t.same fun q hq => by
    obtain ⟨_, c, hc⟩ := h.t.block hq
    exact hb q (heap_lt hc) (h.s.ne hc)
  s := hs
end
end Go.Proofs.YtmdmbimfdpngaaaGreat

/-! forebayref05.Check: frame, relation, the code taken out by functions. -/
namespace Go.Proofs.YtmdmbimfdpngaaaGreat
set_option linter.unusedSimpArgs false
set_option linter.unusedVariables false
open Go.RowKit Ga
set_option maxRecDepth 100000
theorem enc_newU {α : Type} {enc : α → List Value} (w : World) (x : α) (c : List Value) (t : TypeId) (b : Nat) (hb : b = w.heap.size) (hc : enc x = c) : ∀ j u, ([x].flatMap enc)[j]? = some u → (w.alloc (.cells c.toArray t)).cell? ⟨b, j, none⟩ = some u := by
  intro j u hj
  rw [cell_of (heap_new_at w _ b hb)]
  rw [List.flatMap_cons, List.flatMap_nil, List.append_nil, hc] at hj
  simpa using hj
theorem rep_push (j : Nat) : List.replicate j (-1 : Int) ++ [-1] = List.replicate (j + 1) (-1) := by
  rw [List.replicate_succ']

/-- all ways, while they are gone -/
def Going (l : List Val) (w : World) (b3 m : Nat) (vt : Value) (wr : World) : Prop := ∃ (vd : Value) (dep : List Int) (mx em : Int) (u0 u1 : Bool) (T M : List Pl), GoneAt w w.heap.size b3 (b3 + 1) M.length wr vd vt dep mx em u0 u1 T M ∧ Vm.Gone l M T dep ∧ m = 2 * Vm.free M + T.length

def frame9 (v : Value) (b2 b3 : Nat) (u : Nat → Value) : Act := { tmps := #[v, u 1, .pointer (some ⟨b2, 0, none⟩), .pointer (some ⟨b3, 0, none⟩), .map (some (b3 + 1)), u 5, u 6, u 7, u 8, u 9, u 10, u 11, u 12, u 13, u 14, u 15, u 16, u 17, u 18, u 19, u 20, u 21, u 22, u 23, u 24, u 25, u 26, u 27, u 28, u 29, u 30, u 31, u 32, u 33, u 34, u 35, u 36, u 37, u 38, u 39, u 40, u 41, u 42, u 43, u 44, u 45, u 46, u 47, u 48, u 49, u 50, u 51, u 52, u 53, u 54, u 55, u 56, u 57, u 58, u 59, u 60, u 61, u 62, u 63, u 64, u 65, u 66, u 67, u 68, u 69, u 70, u 71, u 72, u 73, u 74, u 75, u 76, u 77, u 78, u 79, u 80, u 81, u 82, u 83, u 84, u 85, u 86, u 87, u 88, u 89, u 90, u 91, u 92, u 93, u 94, u 95, u 96, u 97, u 98, u 99, u 100, u 101, u 102, u 103, u 104, u 105, u 106, u 107, u 108, u 109, u 110, u 111, u 112, u 113, u 114, u 115, u 116, u 117, u 118, u 119, u 120, u 121, u 122, u 123, u 124, u 125, u 126, u 127, u 128, u 129, u 130, u 131, u 132, u 133, u 134, u 135, u 136, u 137, u 138, u 139, u 140, u 141, u 142, u 143, u 144, u 145, u 146, u 147, u 148, u 149, u 150, u 151, u 152, u 153, u 154, u 155, u 156, u 157, u 158, u 159, u 160, u 161, u 162, u 163, u 164, u 165, u 166, u 167, u 168, u 169, u 170, u 171, u 172, u 173, u 174, u 175, u 176, u 177, u 178, u 179, u 180, u 181, u 182, u 183, u 184, u 185, u 186, u 187, u 188, u 189, u 190, u 191, u 192, u 193], defers := [] }
/-- What Check tells: whether it is safe, and more that nobody asks. -/
def RefCheck (l : List Val) (w : World) (e : Ending) (w' : World) : Prop := Grew w w' ∧ ∃ (d : Value) (n1 n2 : Int) (u1 u2 : Bool), e = .returned (.agg #[d, .int .i64 n1, .int .i64 n2, .bool u1, .bool u2, .bool (Vm.safe l)])
theorem RefCheck.mk {l : List Val} {w w' : World} {d : Value} {n1 n2 : Int} {u1 u2 b : Bool} (h : Vm.safe l = b) (hg : Grew w w') : RefCheck l w (.returned (.agg #[d, .int .i64 n1, .int .i64 n2, .bool u1, .bool u2, .bool b])) w' :=
  ⟨hg, d, n1, n2, u1, u2, by rw [h]⟩
theorem Going.frame {l : List Val} {w w' : World} {b2 b3 n : Nat} {v : Value} {a' : Act} (h : a' = frame9 v b2 b3 (fun i => a'.tmps.getD i undef)) (hp : Going l w b3 n (a'.tmps.getD 5 undef) w') : ∃ u, a' = frame9 v b2 b3 u ∧ Going l w b3 n (u 5) w' := ⟨_, h, hp⟩

theorem Going.mkFrame {b2 b3 : Nat} {v : Value} {a' : Act} (h : a' = frame9 v b2 b3 (fun i => a'.tmps.getD i undef)) : a' = frame9 v b2 b3 (fun i => a'.tmps.getD i undef) := h
def allLoops9 : Code → List Code
  | .loop c => [c]
  | .seq a b => allLoops9 a ++ allLoops9 b
  | .block _ c => allLoops9 c
  | .scope c => allLoops9 c
  | .cond _ a b => allLoops9 a ++ allLoops9 b
  | _ => []
def starts9 (n : Nat) : Code → Bool
  | .region k _ _ => k == n
  | .seq a _ => starts9 n a
  | _ => false
/-- the code from region n on -/
def from9 (n : Nat) : Code → Option Code
  | .seq a b => if starts9 n a then some (.seq a b) else match from9 n a with
    | some c => some c
    | none => from9 n b
  | .loop c => from9 n c
  | .block _ c => from9 n c
  | .scope c => from9 n c
  | .cond _ a b => match from9 n a with
    | some c => some c
    | none => from9 n b
  | _ => none
/-- behind the loop -/
def End9 (l : List Val) (w : World) (b3 : Nat) (v : Value) (a' : Act) (w' : World) : Prop := ∃ (u : Nat → Value) (vd vt : Value) (dep : List Int) (mx em : Int) (u0 u1 : Bool) (M : List Pl), a' = frame9 v w.heap.size b3 u ∧ GoneAt w w.heap.size b3 (b3 + 1) M.length w' vd vt dep mx em u0 u1 [] M ∧ Vm.safe l = true
end Go.Proofs.YtmdmbimfdpngaaaGreat
