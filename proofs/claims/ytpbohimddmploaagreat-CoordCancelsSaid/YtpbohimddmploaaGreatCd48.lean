import Derived.Test.YtpbohimddmploaaGreatCd46
import Derived.Test.YtpbohimddmploaaGreatCd45
import Derived.Test.YtpbohimddmploaaGreatCd5
import Derived.Test.YtpbohimddmploaaGreatCd0
import Derived.Deep.LoopGhost
set_option linter.unusedSimpArgs false
set_option linter.unusedVariables false
set_option maxRecDepth 100000
set_option maxHeartbeats 64000000
namespace Go.Proofs.YtpbohimddmploaaGreat
open Go.RowKit Ga

def Leaves (T : List TypeId) (W W' : World) : Prop := ∀ (q : Nat) (o : Obj), W.heap[q]? = some o → (∀ c t f, o = .cells c t f → t ∉ T) → W'.heap[q]? = some o
theorem Leaves.refl (T : List TypeId) (W : World) : Leaves T W W := fun _ _ h _ => h
theorem Leaves.trans {T : List TypeId} {a b c : World} (h : Leaves T a b) (k : Leaves T b c) : Leaves T a c := fun q o hq ht => k q o (h q o hq ht) ht
theorem Leaves.mono {T T' : List TypeId} {a b : World} (h : Leaves T a b) (hs : ∀ t ∈ T, t ∈ T') : Leaves T' a b := fun q o hq ht => h q o hq fun c t f e hm => ht c t f e (hs t hm)
theorem Leaves.grew {T : List TypeId} {W W' : World} (g : Grew W W') : Leaves T W W' := fun _ _ h _ => grew_heap g h
theorem Leaves.set {T : List TypeId} {W W' : World} {b o : Nat} {v : Value} {c : Array Value} {t : TypeId} (h : Leaves T W W') (hb : W'.heap[b]? = some (.cells c t)) (ht : t ∈ T) : Leaves T W (W'.setCell ⟨b, o, none⟩ v) := fun q x hq hx => by
  have h1 := h q x hq hx
  by_cases e : b = q
  · subst e
    rw [hb] at h1
    cases h1
    exact absurd ht (hx _ _ _ rfl)
  · rw [set_other e]
    exact h1
theorem Leaves.app {α : Type} {T : List TypeId} {w0 W W1 W' : World} {e : TypeId} {k : Nat} {enc : α → List Value} {v v' : Value} {l l' : List α} (h : Leaves T W W1) (ho : OwnAt w0.heap.size e k enc W1 v l) (ha : Appended w0 e k enc W1 v l' v' W') (ht : e ∈ T) : Leaves T W W' := fun q x hq hx => by
  have h1 := h q x hq hx
  rw [ha.2.2.2.1 q (heap_lt h1) fun e1 => ?_]
  · exact h1
  · obtain ⟨-, c, hc⟩ := OwnAt.block ho e1
    rw [h1] at hc
    cases hc
    exact hx _ _ _ rfl ht
theorem Leaves.at {T : List TypeId} {W W' : World} (h : Leaves T W W') {q : Nat} {c : Array Value} {t : TypeId} {f : Nat × Nat} (hq : W.heap[q]? = some (.cells c t f)) (ht : t ∉ T) : W'.heap[q]? = some (.cells c t f) := h q _ hq fun c' t' f' e => by cases e; exact ht
theorem Leaves.type {T : List TypeId} {W W' : World} (h : Leaves T W W') {t : TypeId} (ht : t ∉ T) : Same t W W' := fun q c hq => (h.at hq ht).trans hq.symm
theorem Leaves.own {α : Type} {T : List TypeId} {W W' : World} {base : Nat} {e : TypeId} {k : Nat} {enc : α → List Value} {v : Value} {l : List α} (h : Leaves T W W') (ho : OwnAt base e k enc W v l) (ht : e ∉ T) : OwnAt base e k enc W' v l := OwnAt.sameT ho (h.type ht)
theorem Leaves.nodes {T : List TypeId} {W W' : World} {base : Nat} {lc : List NdC} {l : List Gr.Nd} (h : Leaves T W W') (ho : NodesIn base W lc l) (h1 : 3 ∉ T) (h2 : 190 ∉ T) : NodesIn base W' lc l := ho.sameT (h.type h1) (h.type h2)
theorem Leaves.steps {T : List TypeId} {W W' : World} {base : Nat} {lc : List StC} {l : List Gr.Stp} (h : Leaves T W W') (ho : StepsIn base W lc l) (h1 : 3 ∉ T) (h2 : 190 ∉ T) : StepsIn base W' lc l := ho.sameT (h.type h1) (h.type h2)
def NoData (T : List TypeId) : Prop := 3 ∉ T ∧ 190 ∉ T ∧ 56 ∉ T ∧ 73 ∉ T ∧ 120 ∉ T ∧ 127 ∉ T
theorem MfOwn.leaves {T : List TypeId} {W W' : World} {base : Nat} {c : MfC} {m : Gr.Mf} (h : MfOwn base W c m) (g : Leaves T W W') (hT : NoData T) : MfOwn base W' c m := by
  obtain ⟨lc, h1, h2⟩ := h.g
  obtain ⟨lp, h3, h4⟩ := h.p
  obtain ⟨t1, t2, t3, t4, t5, t6⟩ := hT
  exact ⟨h.epoch, h.plans, g.own h.o t1, ⟨lc, g.own h1 t3, g.nodes h2 t1 t2⟩, g.own h.e t5, g.own h.x t6, ⟨lp, g.own h3 t4, g.steps h4 t1 t2⟩⟩
def PlOwn (base : Nat) (w : World) (v : Value) (p : List Gr.Stp) : Prop := ∃ lc, StepsOwn base w v lc ∧ StepsIn base w lc p
theorem PlOwn.at {base : Nat} {w : World} {v : Value} {p : List Gr.Stp} (h : PlOwn base w v p) : StepsAt w v p := by
  obtain ⟨lc, h1, h2⟩ := h
  exact h2.at h1
theorem PlOwn.leaves {T : List TypeId} {W W' : World} {base : Nat} {v : Value} {p : List Gr.Stp} (h : PlOwn base W v p) (g : Leaves T W W') (hT : NoData T) : PlOwn base W' v p := by
  obtain ⟨lc, h1, h2⟩ := h
  exact ⟨lc, g.own h1 hT.2.2.2.1, g.steps h2 hT.1 hT.2.1⟩
theorem getPlan_own (s : List UInt8) (w : World) (hs : s.length ≤ 100000) : Calls Tryz.prog 46 #[.string ⟨s.toArray⟩] w fun e w' => ∃ v, e = .returned (.tuple #[v, .int .i64 (Gr.getPl getL s).2]) ∧ PlOwn w.heap.size w' v (Gr.getPl getL s).1 ∧ Grew w w' :=
  (getPlanO_any s w hs).mono fun _ _ ⟨v, lc, h1, h2, h3, h4⟩ => ⟨v, h1, ⟨lc, h2, h3⟩, h4⟩
theorem str_at1 (W : World) (x : List UInt8) (t : TypeId) (b : Nat) {c : Array Value} (hc : c = #[.string ⟨x.toArray⟩]) (hb : b = W.heap.size) : ∀ j u, (([x] : List (List UInt8)).flatMap encS)[j]? = some u → (W.alloc (.cells c t)).cell? ⟨b, j, none⟩ = some u := by
  subst hc
  intro j u hu
  rw [new_cells W _ t b hb j]
  simpa [encS] using hu
theorem app_blk {α : Type} {w0 W W1 W' : World} {e : TypeId} {k : Nat} {enc : α → List Value} {v v' : Value} {l' : List α} (ha : Appended w0 e k enc W1 v l' v' W') (g : Grew W W1) {q : Nat} {o : Obj} (h : W.heap[q]? = some o) (hq : v.ownBlock ≠ some q) : W'.heap[q]? = some o := by
  rw [ha.2.2.2.1 q (heap_lt (grew_heap g h)) hq]
  exact grew_heap g h
theorem Leaves.app0 {α : Type} {T : List TypeId} {w0 W W1 W' : World} {e : TypeId} {k : Nat} {enc : α → List Value} {v' : Value} {l' : List α} (ha : Appended w0 e k enc W1 (.slice none 0 0) l' v' W') (g : Grew W W1) : Leaves T W W' := fun q o hq _ => app_blk ha g hq (by intro h; cases h)
def Twin (t : TypeId) (A B : World) : Prop := Leaves [t] A B ∧ A.heap.size = B.heap.size
theorem Twin.new (t : TypeId) (X : World) (c c' : Array Value) : Twin t (X.alloc (.cells c t)) (X.alloc (.cells c' t)) := by
  refine ⟨fun q o hq ho => ?_, by simp [World.size_alloc]⟩
  by_cases e : q = X.heap.size
  · rw [heap_new_at X _ q e] at hq
    cases hq
    exact absurd (by simp) (ho _ _ _ rfl)
  · have hl := heap_lt hq
    rw [World.size_alloc] at hl
    have h1 : (X.alloc (.cells c t)).heap[q]? = X.heap[q]? := Array.getElem?_push_lt (by omega) |>.trans (by rw [Array.getElem?_eq_getElem (by omega)])
    have h2 : (X.alloc (.cells c' t)).heap[q]? = X.heap[q]? := Array.getElem?_push_lt (by omega) |>.trans (by rw [Array.getElem?_eq_getElem (by omega)])
    rw [h2, ← h1]
    exact hq
theorem Twin.more {t : TypeId} {A B : World} (h : Twin t A B) (R : Array Obj) (n : Nat) : Twin t (A.more R n) (B.more R n) := by
  refine ⟨fun q o hq ho => ?_, by simp [World.more_size, h.2]⟩
  by_cases hl : q < A.heap.size
  · rw [World.heap_more R n q hl] at hq
    rw [World.heap_more R n q (by rw [← h.2]; exact hl)]
    exact h.1 q o hq ho
  · rw [heap_more_in A R n q (by omega)] at hq
    rw [heap_more_in B R n q (by rw [← h.2]; omega), ← h.2]
    exact hq
theorem Twin.alloc {t : TypeId} {A B : World} (h : Twin t A B) (o : Obj) : Twin t (A.alloc o) (B.alloc o) := by
  rw [World.alloc_more, World.alloc_more]
  refine ⟨fun q o' hq ho => ?_, by simp [World.more_size, h.2]⟩
  exact (h.more #[o] A.drawn).1 q o' hq ho
theorem Twin.own {t : TypeId} {A B : World} (h : Twin t A B) {base : Nat} {c : MfC} {m : Gr.Mf} (hm : MfOwn base A c m) (hT : NoData [t]) : MfOwn base B c m := hm.leaves h.1 hT
theorem set_blk {W : World} {b o : Nat} {c c' : Array Value} {t : TypeId} {v : Value} (h : W.heap[b]? = some (.cells c t)) (e : c.setIfInBounds o v = c') : (W.setCell ⟨b, o, none⟩ v).heap[b]? = some (.cells c' t) := by
  rw [set_self h, e]

theorem u8_back {x : Int} (h : 0 ≤ x ∧ x < 256) : ((UInt8.ofNat x.toNat).toNat : Int) = x := by
  have : (UInt8.ofNat x.toNat).toNat = x.toNat % 256 := rfl
  rw [this]
  omega
theorem conv4 (w : World) (x0 x1 x2 x3 : Int) (h0 : 0 ≤ x0 ∧ x0 < 256) (h1 : 0 ≤ x1 ∧ x1 < 256) (h2 : 0 ≤ x2 ∧ x2 < 256) (h3 : 0 ≤ x3 ∧ x3 < 256) : (convert 149 9 (.slice (some ⟨w.heap.size, 0, none⟩) 4 4)).run Tryz.prog (w.alloc (.cells #[.int .u8 x0, .int .u8 x1, .int .u8 x2, .int .u8 x3] 5)) = .ok (.string ⟨[UInt8.ofNat x0.toNat, UInt8.ofNat x1.toNat, UInt8.ofNat x2.toNat, UInt8.ofNat x3.toNat].toArray⟩) (w.alloc (.cells #[.int .u8 x0, .int .u8 x1, .int .u8 x2, .int .u8 x3] 5)) := by
  refine run_convert_bytes_back _ _ _ 5 ⟨w.heap.size, 0, none⟩ 4 [UInt8.ofNat x0.toNat, UInt8.ofNat x1.toNat, UInt8.ofNat x2.toNat, UInt8.ofNat x3.toNat] Tryz.underlying149 Tryz.underlying5 Tryz.underlying9 ?_
  intro j hj
  rw [addr_add_zero, new_cells w _ _ _ rfl]
  rcases (show j = 0 ∨ j = 1 ∨ j = 2 ∨ j = 3 by simp at hj; omega) with rfl | rfl | rfl | rfl
  · show some (Value.int .u8 x0) = some (.int .u8 ((UInt8.ofNat x0.toNat).toNat : Int)); rw [u8_back h0]
  · show some (Value.int .u8 x1) = some (.int .u8 ((UInt8.ofNat x1.toNat).toNat : Int)); rw [u8_back h1]
  · show some (Value.int .u8 x2) = some (.int .u8 ((UInt8.ofNat x2.toNat).toNat : Int)); rw [u8_back h2]
  · show some (Value.int .u8 x3) = some (.int .u8 ((UInt8.ofNat x3.toNat).toNat : Int)); rw [u8_back h3]
theorem sumFour_any (n : Int) (w : World) : Calls Tryz.prog 149 #[.int .i64 n] w fun e w' => ∃ b : List UInt8, b.length = 4 ∧ Gives (str b) w e w' := by
  have hk := conv4 w (n / 16777216 % 256) (n / 65536 % 256) (n / 256 % 256) (n % 256) (by omega) (by omega) (by omega) (by omega)
  go_enter Tryz.func149, Tryz.ntmps149
  go_wp2
  go_ret
  exact ⟨_, rfl, rfl, by repeat (first | with_reducible exact Grew.refl _ | apply Grew.more | apply Grew.alloc | apply Grew.drew | apply Grew.drewN)⟩
theorem sumOf_any (v : Value) (ls : List (List UInt8)) (w : World) (hv : RowsAt 1 encS w v ls) (hl : ∀ l ∈ ls, l.length ≤ 1000000) : Calls Tryz.prog 150 #[v] w fun e w' => ∃ y : Int, Gives (.int .i64 y) w e w' := by
  have HV := Lib.hid hv
  have HL := Lib.hid hl
  obtain ⟨a, cap, rfl, hn, -⟩ := hv.open1
  clear hv hl
  go_enter Tryz.func150, Tryz.ntmps150
  go_wp2
  go_loopg [3, 9] ls.length (fun gg s3 s9 wr => ∃ k : Nat, k ≤ ls.length ∧ ls.length - k ≤ gg ∧ s9 = .int .i64 k ∧ (∃ y : Int, s3 = .int .u32 y) ∧ Hid (Grew w wr))
  case atStart => exact ⟨0, by omega, by omega, rfl, ⟨_, rfl⟩, Lib.hid (Grew.refl _)⟩
  case round =>
    obtain ⟨k, hk, hgg, rfl, ⟨y, rfl⟩, HG⟩ := hrel
    rename World => wa
    by_cases hlt : k < ls.length
    · obtain ⟨a', cap', e, -, hx⟩ := ((HV.out.grew HG.out)).open1
      cases e
      obtain ⟨b, off, rfl, hb, hc⟩ := hx k hlt
      have HM := Lib.hid (HL.out ls[k] (List.getElem_mem hlt))
      generalize ls[k] = s at *
      have hsz : (s.length : Int) ≤ 9223372036854775807 := by have := HM.out; omega
      clear hx
      have hk2 : (k : Int) < ls.length := by omega
      go_wp2
      go_loopg [3, 15] s.length (fun gg s3 s15 wr => ∃ i : Nat, i ≤ s.length ∧ s.length - i ≤ gg ∧ s15 = .int .i64 i ∧ (∃ y : Int, s3 = .int .u32 y) ∧ Hid (Grew w wr))
      case atStart => exact ⟨0, by omega, by omega, rfl, ⟨_, rfl⟩, HG⟩
      case round =>
        obtain ⟨i, hi, hgi, rfl, ⟨z, rfl⟩, HG2⟩ := hrel
        rename World => wb
        by_cases hil : i < s.length
        · have hi2 : (i : Int) < s.length := by omega
          go_wp2_with (go_at_call 191; refine (sumStep_any _ _ _).mono ?_; rintro e w1 ⟨y1, rfl, R3, n3, rfl⟩)
          go_roundg (s.length - (i + 1))
          case measure => omega
          case rel => exact ⟨i + 1, by omega, by omega, by go_num, ⟨_, rfl⟩, Lib.hid (HG2.out.trans (by repeat (first | with_reducible exact Grew.refl _ | apply Grew.more | apply Grew.alloc | apply Grew.drew | apply Grew.drewN)))⟩
        · obtain rfl : i = s.length := by omega
          go_wp2
          go_roundg (ls.length - (k + 1))
          case measure => omega
          case rel => exact ⟨k + 1, by omega, by omega, by go_num, ⟨_, rfl⟩, Lib.hid (HG2.out.trans (by repeat (first | with_reducible exact Grew.refl _ | apply Grew.more | apply Grew.alloc | apply Grew.drew | apply Grew.drewN)))⟩
    · obtain rfl : k = ls.length := by omega
      go_wp2
      go_ret
      exact ⟨_, rfl, HG.out.trans (by repeat (first | with_reducible exact Grew.refl _ | apply Grew.more | apply Grew.alloc | apply Grew.drew | apply Grew.drewN))⟩

theorem join_nil (ps : List (List UInt8)) : Lib.join ps [] = ps.flatten := by
  cases ps with
  | nil => rfl
  | cons p r =>
    rw [Lib.join_cons, Lib.joinTail, List.flatten_cons]
    simp
structure DiskAt (W : World) (x : Nat) (last : List UInt8) (pv : Value) (ps : List (List UInt8)) (cap : Int) : Prop where
  blk : W.heap[x]? = some (.cells #[.int .i64 (-1), .bool false, str last, pv, .int .i64 cap] 95)
  own : OwnAt 0 9 1 encS W pv ps
  n1 : ps.length ≤ 1
  len : (last ++ ps.flatten).length ≤ 1000000
theorem DiskAt.grew {W W' : World} {x : Nat} {last : List UInt8} {pv : Value} {ps : List (List UInt8)} {cap : Int} (h : DiskAt W x last pv ps cap) (g : Grew W W') : DiskAt W' x last pv ps cap := ⟨grew_heap g h.blk, h.own.grew g, h.n1, h.len⟩
theorem DiskAt.leaves {T : List TypeId} {W W' : World} {x : Nat} {last : List UInt8} {cap : Int} (h : DiskAt W x last (.slice none 0 0) [] cap) (g : Leaves T W W') (hT : 95 ∉ T) : DiskAt W' x last (.slice none 0 0) [] cap := ⟨g.at h.blk hT, OwnAt.nil _, h.n1, h.len⟩
section
variable {W : World} {x : Nat} {last : List UInt8} {pv : Value} {ps : List (List UInt8)} {cap : Int}
theorem diskAll_any (h : DiskAt W x last pv ps cap) : Calls Tryz.prog 138 #[.pointer (some ⟨x, 0, none⟩)] W (Gives (str (last ++ ps.flatten)) W) := by
  have h2 := cell_of (o := 2) h.blk
  have h3 := cell_of (o := 3) h.blk
  simp at h2 h3
  have hb : Pre x W := heap_lt h.blk
  have HJ := Lib.hid fun W' (g : Grew W W') => join_any pv ps [] 0 W' (h.own.grew g) (by have := h.n1; omega) (by rw [join_nil]; have := h.len; rw [List.length_append] at this; omega)
  rw [join_nil] at HJ
  have hlen := h.len
  rw [List.length_append] at hlen
  clear h
  generalize ps.flatten = t at *
  have e := str_cat last t
  have hsz : ¬ 9223372036854775807 < last.length + t.length := by omega
  go_enter Tryz.func138, Tryz.ntmps138
  go_wp2_with fail
  refine wp_region_seq 10 Tryz.mixed (by kernel_rfl) (by kernel_rfl) ?_
  iterate 8
    apply Seq.val
    focus
      rintro w1 u ⟨R1, n1, rfl⟩ hF
      simp [moreFacts, Fact.more, Oper.deps, Region.binds, List.filter_cons, World.more_drew] at hF
      simp [putFacts, Oper.deps, Region.binds, List.filter_cons, Region.dstOf, Fact.at, Act.put, World.more_drew]
      go_wp2
      exact ⟨by repeat (first | with_reducible exact Grew.refl _ | apply Grew.more | apply Grew.alloc | apply Grew.drew | apply Grew.drewN), rfl, _, _, rfl, rfl, rfl⟩
  apply Seq.val
  focus
    rintro w1 u ⟨R1, n1, rfl⟩ hF
    simp [moreFacts, Fact.more, Oper.deps, Region.binds, List.filter_cons, World.more_drew] at hF
    simp [putFacts, Oper.deps, Region.binds, List.filter_cons, Region.dstOf, Fact.at, Act.put, World.more_drew]
    go_wp2_with (first
      | (go_at_call 183; refine (HJ.out _ (by repeat (first | with_reducible exact Grew.refl _ | apply Grew.more | apply Grew.alloc | apply Grew.drew | apply Grew.drewN))).mono ?_; rintro e w1 ⟨rfl, R3, n3, rfl⟩)
      )
    exact ⟨by repeat (first | with_reducible exact Grew.refl _ | apply Grew.more | apply Grew.alloc | apply Grew.drew | apply Grew.drewN), rfl, _, _, rfl, rfl, rfl⟩
  iterate 1
    apply Seq.val
    focus
      rintro w1 u ⟨R1, n1, rfl⟩ hF
      simp [moreFacts, Fact.more, Oper.deps, Region.binds, List.filter_cons, World.more_drew] at hF
      simp [putFacts, Oper.deps, Region.binds, List.filter_cons, Region.dstOf, Fact.at, Act.put, World.more_drew]
      go_wp2
      exact ⟨by repeat (first | with_reducible exact Grew.refl _ | apply Grew.more | apply Grew.alloc | apply Grew.drew | apply Grew.drewN), rfl, _, _, rfl, rfl, rfl⟩
  rintro u w1 ⟨R1, n1, rfl⟩ hF
  clear hF
  simp [putFacts, Region.dstOf, Fact.at, Act.put, List.range_succ, World.more_drew]
  go_wp2
  go_ret
  exact ⟨by simp [e], by repeat (first | with_reducible exact Grew.refl _ | apply Grew.more | apply Grew.alloc | apply Grew.drew | apply Grew.drewN)⟩
theorem diskWrong_any (h : DiskAt W x last pv ps cap) : Calls Tryz.prog 60 #[.pointer (some ⟨x, 0, none⟩)] W (Gives (.int .i64 0) W) := by
  have h1 := cell_of (o := 1) h.blk
  simp at h1
  clear h
  go_enter Tryz.func60, Tryz.ntmps60
  go_wp2
  go_ret
  refine ⟨rfl, ?_⟩
  repeat (first | with_reducible exact Grew.refl _ | apply Grew.more | apply Grew.alloc | apply Grew.drew | apply Grew.drewN)
theorem diskBurn_any (h : DiskAt W x last pv ps cap) : Calls Tryz.prog 62 #[.pointer (some ⟨x, 0, none⟩)] W (Gives (.bool true) W) := by
  have h0 := cell_of (o := 0) h.blk
  simp at h0
  clear h
  go_enter Tryz.func62, Tryz.ntmps62
  go_wp2
  go_ret
  refine ⟨rfl, ?_⟩
  repeat (first | with_reducible exact Grew.refl _ | apply Grew.more | apply Grew.alloc | apply Grew.drew | apply Grew.drewN)
theorem diskLen_any (h : DiskAt W x last pv ps cap) : Calls Tryz.prog 121 #[.pointer (some ⟨x, 0, none⟩)] W (Gives (.int .i64 ((last ++ ps.flatten).length : Nat)) W) := by
  have HA := Lib.hid (diskAll_any h)
  have hl := h.len
  clear h
  generalize last ++ ps.flatten = t at *
  have hs : (t.length : Int) ≤ 9223372036854775807 := by omega
  go_enter Tryz.func121, Tryz.ntmps121
  go_wp2_with (go_at_call 138; refine HA.out.mono ?_; rintro e w1 ⟨rfl, R3, n3, rfl⟩)
  go_ret
  exact ⟨by simp, by repeat (first | with_reducible exact Grew.refl _ | apply Grew.more | apply Grew.alloc | apply Grew.drew | apply Grew.drewN)⟩
theorem diskRead_any (h : DiskAt W x last pv ps cap) : Calls Tryz.prog 89 #[.pointer (some ⟨x, 0, none⟩)] W (Gives (.tuple #[str (last ++ ps.flatten), .int .i64 0]) W) := by
  have HA := Lib.hid fun W' (g : Grew W W') => diskAll_any (h.grew g)
  have HW := Lib.hid (diskWrong_any h)
  clear h
  generalize last ++ ps.flatten = t at *
  go_enter Tryz.func89, Tryz.ntmps89
  go_wp2_with (first
    | (go_at_call 60; refine HW.out.mono ?_; rintro e w1 ⟨rfl, R1, n1, rfl⟩)
    | (go_at_call 138; refine (HA.out _ (by repeat (first | with_reducible exact Grew.refl _ | apply Grew.more | apply Grew.alloc | apply Grew.drew | apply Grew.drewN))).mono ?_; rintro e w1 ⟨rfl, R3, n3, rfl⟩))
  go_ret2
  exact ⟨rfl, by repeat (first | with_reducible exact Grew.refl _ | apply Grew.more | apply Grew.alloc | apply Grew.drew | apply Grew.drewN)⟩
theorem diskRoom_any (h : DiskAt W x last pv ps cap) (hc : 0 ≤ cap ∧ cap ≤ 16777216) : Calls Tryz.prog 61 #[.pointer (some ⟨x, 0, none⟩)] W (Gives (.int .i64 (cap - ((last ++ ps.flatten).length : Nat))) W) := by
  have HA := Lib.hid fun W' (g : Grew W W') => diskLen_any (h.grew g)
  have h4 := cell_of (o := 4) h.blk
  simp at h4
  have hb : Pre x W := heap_lt h.blk
  have hl := h.len
  clear h
  generalize (last ++ ps.flatten).length = n at *
  go_enter Tryz.func61, Tryz.ntmps61
  go_wp2_with fail
  refine wp_region_seq 7 Tryz.mixed (by kernel_rfl) (by kernel_rfl) ?_
  iterate 5
    apply Seq.val
    focus
      rintro w1 u ⟨R1, n1, rfl⟩ hF
      simp [moreFacts, Fact.more, Oper.deps, Region.binds, List.filter_cons, World.more_drew] at hF
      simp [putFacts, Oper.deps, Region.binds, List.filter_cons, Region.dstOf, Fact.at, Act.put, World.more_drew]
      go_wp2
      exact ⟨by repeat (first | with_reducible exact Grew.refl _ | apply Grew.more | apply Grew.alloc | apply Grew.drew | apply Grew.drewN), rfl, _, _, rfl, rfl, rfl⟩
  apply Seq.val
  focus
    rintro w1 u ⟨R1, n1, rfl⟩ hF
    simp [moreFacts, Fact.more, Oper.deps, Region.binds, List.filter_cons, World.more_drew] at hF
    simp [putFacts, Oper.deps, Region.binds, List.filter_cons, Region.dstOf, Fact.at, Act.put, World.more_drew]
    go_wp2_with (first
      | (go_at_call 121; refine (HA.out _ (by repeat (first | with_reducible exact Grew.refl _ | apply Grew.more | apply Grew.alloc | apply Grew.drew | apply Grew.drewN))).mono ?_; rintro e w1 ⟨rfl, R3, n3, rfl⟩)
      )
    exact ⟨by repeat (first | with_reducible exact Grew.refl _ | apply Grew.more | apply Grew.alloc | apply Grew.drew | apply Grew.drewN), rfl, _, _, rfl, rfl, rfl⟩
  iterate 1
    apply Seq.val
    focus
      rintro w1 u ⟨R1, n1, rfl⟩ hF
      simp [moreFacts, Fact.more, Oper.deps, Region.binds, List.filter_cons, World.more_drew] at hF
      simp [putFacts, Oper.deps, Region.binds, List.filter_cons, Region.dstOf, Fact.at, Act.put, World.more_drew]
      go_wp2
      exact ⟨by repeat (first | with_reducible exact Grew.refl _ | apply Grew.more | apply Grew.alloc | apply Grew.drew | apply Grew.drewN), rfl, _, _, rfl, rfl, rfl⟩
  rintro u w1 ⟨R1, n1, rfl⟩ hF
  clear hF
  simp [putFacts, Region.dstOf, Fact.at, Act.put, List.range_succ, World.more_drew]
  go_wp2
  go_ret
  exact ⟨by first | rfl | (congr 1; omega) | simp, by repeat (first | with_reducible exact Grew.refl _ | apply Grew.more | apply Grew.alloc | apply Grew.drew | apply Grew.drewN)⟩
end
theorem diskAppend_any {W : World} {x : Nat} {last : List UInt8} {cap : Int} (w0 : World) (s : List UInt8) (h : DiskAt W x last (.slice none 0 0) [] cap) (hg : Grew w0 W) (hx : w0.heap.size ≤ x) (hc : 0 ≤ cap ∧ cap ≤ 16777216) (hs : s ≠ []) (hroom : (s.length : Int) ≤ cap - last.length) (hl : last.length + s.length ≤ 1000000) :
    Calls Tryz.prog 23 #[.pointer (some ⟨x, 0, none⟩), .string ⟨s.toArray⟩] W fun e W' => e = .returned (.int .i64 0) ∧ (∃ pv, DiskAt W' x last pv [s] cap) ∧ Leaves [95] W W' ∧ Grew w0 W' := by
  have HW := Lib.hid (diskWrong_any h)
  have HR := Lib.hid fun W' (g : Grew W W') => diskRoom_any (h.grew g) hc
  have HB := Lib.hid fun W' (g : Grew W W') => diskBurn_any (h.grew g)
  have h3 := cell_of (o := 3) h.blk
  simp at h3
  have hf3 := frozen_of (o := 3) h.blk
  have hb : Pre x W := heap_lt h.blk
  have H := Lib.hid h
  rw [List.flatten_nil, List.append_nil] at HR
  have hsz : (s.length : Int) ≤ 9223372036854775807 := by omega
  have hroom2 : ¬ (cap - (last.length : Int) < (s.length : Int)) := by omega
  have hne : s.isEmpty = false := by cases s; · exact absurd rfl hs
                                     · rfl
  have HS := Lib.hid hs
  have HL := Lib.hid hl
  clear h hs hl hroom hc
  have HG := Lib.hid hg
  have HX := Lib.hid hx
  clear hg hx
  go_enter Tryz.func23, Tryz.ntmps23
  go_wp2_with (first
    | (go_at_call 60; refine HW.out.mono ?_; rintro e w1 ⟨rfl, R1, n1, rfl⟩)
    | (go_at_call 61; refine (HR.out _ (by repeat (first | with_reducible exact Grew.refl _ | apply Grew.more | apply Grew.alloc | apply Grew.drew | apply Grew.drewN))).mono ?_; rintro e w1 ⟨rfl, R2, n2, rfl⟩)
    | (go_at_call 62; refine (HB.out _ (by repeat (first | with_reducible exact Grew.refl _ | apply Grew.more | apply Grew.alloc | apply Grew.drew | apply Grew.drewN))).mono ?_; rintro e w1 ⟨rfl, R3, n3, rfl⟩)
    | (at_builtin; go_loud (refine wpList_ownK (w0 := w0) rfl (.tmp 30) (.tmp 32) 88 _ _ _ _ [s] rfl Tryz.underlying88 infoStr rfl (by decide) encS_len encS_one rfl (OwnAt.nil _) (HG.out.trans (by repeat (first | with_reducible exact Grew.refl _ | apply Grew.more | apply Grew.alloc | apply Grew.drew | apply Grew.drewN))) rfl (str_at1 _ _ _ _ rfl (by simp [go_sem])) (by simp) (by decide) (by simp) ?_); intro v7 W7 hA; obtain ⟨b9, c9, rfl⟩ := own_some' hA.2.1 (by simp); (have b7 := app_blk (W := W) hA (by repeat (first | with_reducible exact Grew.refl _ | apply Grew.more | apply Grew.alloc | apply Grew.drew | apply Grew.drewN)) H.out.blk (by intro h; cases h)); (have HL7 := Lib.hid (Leaves.app0 (T := [95]) (W := W) hA (by repeat (first | with_reducible exact Grew.refl _ | apply Grew.more | apply Grew.alloc | apply Grew.drew | apply Grew.drewN)))); (have HA7 := Lib.hid hA); (have B7 := Lib.hid b7); (have c7 := cell_of (o := 3) b7); (have f7 := frozen_of (o := 3) b7); (have p7 := Pre.mk (heap_lt b7)); simp at c7; clear hA b7))
  go_ret
  refine ⟨rfl, ⟨.slice (some ⟨b9, 0, none⟩) 1 c9, ?_⟩, ?_, ?_⟩
  · have hl7 : Leaves [95] W7 (W7.setCell ⟨x, 3, none⟩ (.slice (some ⟨b9, 0, none⟩) 1 c9)) := (Leaves.refl _ _).set B7.out (by simp)
    exact ⟨set_blk B7.out rfl, hl7.own (OwnAt.low HA7.out.2.1 (Nat.zero_le _)) (by decide), by simp, by simpa using HL.out⟩
  · exact Leaves.set (HL7.out) B7.out (by simp)
  · exact Grew.set HA7.out.1 HX.out _
theorem diskSync_any {W : World} {x : Nat} {last : List UInt8} {pv : Value} {ps : List (List UInt8)} {cap : Int} (w0 : World) (h : DiskAt W x last pv ps cap) (hg : Grew w0 W) (hx : w0.heap.size ≤ x) :
    Calls Tryz.prog 92 #[.pointer (some ⟨x, 0, none⟩)] W fun e W' => e = .returned (.int .i64 0) ∧ DiskAt W' x (last ++ ps.flatten) (.slice none 0 0) [] cap ∧ Leaves [95] W W' ∧ Grew w0 W' := by
  have HW := Lib.hid (diskWrong_any h)
  have HA := Lib.hid fun W' (g : Grew W W') => diskAll_any (h.grew g)
  have HB := Lib.hid fun W' (g : Grew W W') => diskBurn_any (h.grew g)
  have h2 := cell_of (o := 2) h.blk
  have h3 := cell_of (o := 3) h.blk
  simp at h2 h3
  have hf2 := frozen_of (o := 2) h.blk
  have hf3 := frozen_of (o := 3) h.blk
  have hb : Pre x W := heap_lt h.blk
  have hB := Lib.hid h.blk
  have hL := Lib.hid h.len
  clear h
  have HG := Lib.hid hg
  have HX := Lib.hid hx
  clear hg hx
  generalize last ++ ps.flatten = t at *
  go_enter Tryz.func92, Tryz.ntmps92
  go_wp2_with (first
    | (go_at_call 60; refine HW.out.mono ?_; rintro e w1 ⟨rfl, R1, n1, rfl⟩)
    | (go_at_call 62; refine (HB.out _ (by repeat (first | with_reducible exact Grew.refl _ | apply Grew.more | apply Grew.alloc | apply Grew.drew | apply Grew.drewN))).mono ?_; rintro e w1 ⟨rfl, R2, n2, rfl⟩)
    | (go_at_call 138; refine (HA.out _ (by repeat (first | with_reducible exact Grew.refl _ | apply Grew.more | apply Grew.alloc | apply Grew.drew | apply Grew.drewN))).mono ?_; rintro e w1 ⟨rfl, R3, n3, rfl⟩))
  go_ret
  have b1 := set_blk (o := 2) (v := .string ⟨t.toArray⟩) hB.out rfl
  have b2 := set_blk (o := 3) (v := .slice none 0 0) b1 rfl
  have hl := ((Leaves.refl [95] W).set (o := 2) (v := .string ⟨t.toArray⟩) hB.out (by simp)).set (o := 3) (v := .slice none 0 0) b1 (by simp)
  have hg := (HG.out.set (o := 2) HX.out (.string ⟨t.toArray⟩)).set (o := 3) HX.out (.slice none 0 0)
  exact ⟨rfl, ⟨grew_heap (by repeat (first | with_reducible exact Grew.refl _ | apply Grew.more | apply Grew.alloc | apply Grew.drew | apply Grew.drewN)) b2, OwnAt.nil _, by simp, by simpa using hL.out⟩, hl.trans (Leaves.grew (by repeat (first | with_reducible exact Grew.refl _ | apply Grew.more | apply Grew.alloc | apply Grew.drew | apply Grew.drewN))), hg.trans (by repeat (first | with_reducible exact Grew.refl _ | apply Grew.more | apply Grew.alloc | apply Grew.drew | apply Grew.drewN))⟩
theorem diskNew_any (cap : Int) (w : World) (hc : 0 ≤ cap ∧ cap ≤ 16777216) : Calls Tryz.prog 10 #[.int .i64 cap] w fun e w' => ∃ x, e = .returned (.pointer (some ⟨x, 0, none⟩)) ∧ w.heap.size ≤ x ∧ DiskAt w' x [] (.slice none 0 0) [] cap ∧ Grew w w' := by
  go_enter Tryz.func10, Tryz.ntmps10
  go_wp2
  go_ret
  refine ⟨_, rfl, Nat.le_refl _, ⟨?_, OwnAt.nil _, by simp, by simp⟩, by repeat (first | with_reducible exact Grew.refl _ | apply Grew.more | apply Grew.alloc | apply Grew.drew | apply Grew.drewN)⟩
  rw [heap_new_at _ _ _ rfl, show min (max cap 0) 16777216 = cap by omega]
end Go.Proofs.YtpbohimddmploaaGreat
