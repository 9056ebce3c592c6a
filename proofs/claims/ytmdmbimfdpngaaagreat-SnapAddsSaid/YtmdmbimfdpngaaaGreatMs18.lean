import Derived.Test.YtmdmbimfdpngaaaGreatMs5
import Derived.Test.YtmdmbimfdpngaaaGreatMs9
import Derived.Test.YtmdmbimfdpngaaaGreatMs17
import Derived.Test.YtmdmbimfdpngaaaGreatMs8
/-! What a gathering is in memory. -/
namespace Go.Proofs.YtmdmbimfdpngaaaGreat
set_option linter.unusedSimpArgs false
set_option linter.unusedVariables false
open Go.RowKit Ga
set_option maxRecDepth 100000

/-- a task's number -/
abbrev Who := Int × Int
def whK (x : Who) : Value := .agg #[.int .i64 x.1, .int .i64 x.2]
theorem whK_inj (a b : Who) (h : whK a = whK b) : a = b := by
  obtain ⟨a1, a2⟩ := a
  obtain ⟨b1, b2⟩ := b
  unfold whK at h
  simp at h
  obtain ⟨rfl, rfl⟩ := h
  rfl
def okWho (x : Who) : Prop := (-9223372036854775808 ≤ x.1 ∧ x.1 ≤ 9223372036854775807) ∧ (-9223372036854775808 ≤ x.2 ∧ x.2 ≤ 9223372036854775807)
theorem keyTypeW : Tryz.prog.keyType 110 = true := by kernel_rfl
theorem cellsW : Tryz.prog.cellsOf 110 = 2 := by kernel_rfl
theorem who_law : Maps.Keyed Tryz.prog 110 := Maps.Keyed.of_law (deep_law_laid laidOutC (m := 3) (by decide) (of_decide_eq_true (by kernel_rfl)) (by kernel_rfl) (by kernel_rfl))
theorem keyW (x : Who) (h : okWho x) : ∃ kl, keyOf Tryz.prog 110 (whK x) = some kl := by
  have w1 := WalkArith.wf_i64 h.1
  have w2 := WalkArith.wf_i64 h.2
  unfold whK keyOf
  obtain ⟨m, hm⟩ := Nat.exists_eq_succ_of_ne_zero sizeC
  simp only [Tryz.underlying110, keyTypeW, hm]
  simp [Value.formed, Tryz.underlying110, cellsW, Program.keyLits, Value.cells, Tryz.underlying3, cellsCI, w1, w2]
/-- an acknowledgement as it lies -/
structure AkC where
  node : Int
  ix : Int
  ep : Int
  ae : Option Addr
  ne : Nat
  ce : Nat
  ax : Option Addr
  nx : Nat
  cx : Nat
  off : Int
def AkC.zero : AkC := ⟨0, 0, 0, none, 0, 0, none, 0, 0, 0⟩
def akv (c : AkC) : Value := .agg #[.int .i64 c.node, .int .i64 c.ix, .int .i64 c.ep, .slice c.ae c.ne c.ce, .slice c.ax c.nx c.cx, .int .i64 c.off]
def adD : Option Addr → DataW Unit
  | none => .nil
  | some ⟨b, o, none⟩ => .agg [.lit (.int .i64 b), .lit (.int .i64 o)]
  | some ⟨b, o, some s⟩ => .agg [.lit (.int .i64 b), .lit (.int .i64 o), .lit (.int .i64 s)]
theorem adD_inj : ∀ a b, adD a = adD b → a = b
  | none, none, _ => rfl
  | none, some ⟨_, _, none⟩, h => by cases h
  | none, some ⟨_, _, some _⟩, h => by cases h
  | some ⟨_, _, none⟩, none, h => by cases h
  | some ⟨_, _, some _⟩, none, h => by cases h
  | some ⟨a, b, none⟩, some ⟨c, d, none⟩, h => by
    unfold adD at h
    simp at h
    obtain ⟨h1, h2⟩ := h
    obtain rfl : a = c := by omega
    obtain rfl : b = d := by omega
    rfl
  | some ⟨_, _, none⟩, some ⟨_, _, some _⟩, h => by simp [adD] at h
  | some ⟨_, _, some _⟩, some ⟨_, _, none⟩, h => by simp [adD] at h
  | some ⟨a, b, some e⟩, some ⟨c, d, some f⟩, h => by
    unfold adD at h
    simp at h
    obtain ⟨h1, h2, h3⟩ := h
    obtain rfl : a = c := by omega
    obtain rfl : b = d := by omega
    obtain rfl : e = f := by omega
    rfl
def akDat (c : AkC) : DataW Unit := .agg [.lit (.int .i64 c.node), .lit (.int .i64 c.ix), .lit (.int .i64 c.ep), adD c.ae, .lit (.int .i64 c.ne), .lit (.int .i64 c.ce), adD c.ax, .lit (.int .i64 c.nx), .lit (.int .i64 c.cx), .lit (.int .i64 c.off)]
def akL : List Value → Option (DataW Unit × List MemPlace)
  | [.int .i64 a, .int .i64 b, .int .i64 c, .slice s n k, .slice s2 n2 k2, .int .i64 o] => some (akDat ⟨a, b, c, s, n, k, s2, n2, k2, o⟩, [])
  | _ => none
def akR : Value → Option (DataW Unit × List MemPlace)
  | .agg c => akL c.toList
  | _ => none
theorem akDat_inj {a b : AkC} (h : akDat a = akDat b) : a = b := by
  obtain ⟨a1, a2, a3, a4, a5, a6, a7, a8, a9, a10⟩ := a
  obtain ⟨b1, b2, b3, b4, b5, b6, b7, b8, b9, b10⟩ := b
  unfold akDat at h
  simp at h
  obtain ⟨rfl, rfl, rfl, h4, h5, h6, h7, h8, h9, rfl⟩ := h
  rw [adD_inj _ _ h4, adD_inj _ _ h7, show a5 = b5 by omega, show a6 = b6 by omega, show a8 = b8 by omega, show a9 = b9 by omega]
theorem akR_inv (u : Value) (ps : List MemPlace) (v : AkC) (h : akR u = some (akDat v, ps)) : u = akv v := by
  cases u with
  | agg c =>
    obtain ⟨c⟩ := c
    have h2 : akL c = some (akDat v, ps) := h
    unfold akL at h2
    split at h2
    · injection h2 with h3
      injection h3 with h4 _
      have := akDat_inj h4
      rw [← this]
      rfl
    · cases h2
  | _ => cases h
def ackS : MSpec Who AkC where
  kt := 110
  law := who_law
  kenc := whK
  kinj := whK_inj
  ok := okWho
  key := keyW
  venc := akv
  dat := akDat
  R := akR
  rmk := fun v => rfl
  rinv := akR_inv
theorem zeroAck (w : World) : (zeroValue 59).run Tryz.prog w = .ok (akv AkC.zero) w := by kernel_rfl
/-- what lies in cells stays as it is where a map's block is turned -/
theorem rows_keep {α : Type} {k : Nat} {enc : α → List Value} {w w' : World} {v : Value} {l : List α} {b : Nat} (h : RowsAt k enc w v l) (hk : Keep b w w') (hb : ∀ c t f, w.heap[b]? ≠ some (.cells c t f)) : RowsAt k enc w' v l := by
  obtain ⟨a, cap, rfl, hm, hx⟩ := h
  refine ⟨a, cap, rfl, hm, fun hne => ?_⟩
  obtain ⟨q, off, rfl, hc⟩ := hx hne
  refine ⟨q, off, rfl, fun i x hi j u hu => ?_⟩
  have h1 := hc i x hi j u hu
  have h2 := World.block_lt_of_cell? w _ h1
  have hq : q ≠ b := by
    rintro rfl
    unfold World.cell? at h1
    split at h1
    · rename_i e
      exact hb _ _ _ e
    · cases h1
  unfold World.cell? at h1 ⊢
  simp only at h1 h2 ⊢
  rw [hk.2 q h2 hq]
  exact h1
theorem nodes_keep {w w' : World} {v : Value} {l : List Gr.Nd} {b : Nat} (h : NodesAt w v l) (hk : Keep b w w') (hb : ∀ c t f, w.heap[b]? ≠ some (.cells c t f)) : NodesAt w' v l := by
  obtain ⟨lc, h1, h2, h3⟩ := h
  exact ⟨lc, rows_keep h1 hk hb, h2, fun i c n hc hn => let q := h3 i c n hc hn; { q with f := rows_keep q.f hk hb, p := rows_keep q.p hk hb }⟩
theorem map_nocells {κ ν : Type} {S : MSpec κ ν} {W : World} {b n : Nat} {m : List (κ × ν)} (h : MapAt S W b n m) : ∀ c t f, W.heap[b]? ≠ some (.cells c t f) := by
  obtain ⟨D, ⟨es, c, h1, -⟩, -⟩ := h
  intro c t f e
  rw [h1] at e
  cases e
/-- a gathering at block x: its map at block b -/
structure GatherAt (W : World) (x b n : Nat) (g : List Gr.Nd) (ep : Int) (m : List (Who × AkC)) : Prop where
  cells : ∃ v, W.heap[x]? = some (.cells #[v, .int .i64 ep, .map (some b)] 108) ∧ NodesAt W v g
  map : MapAt ackS W b n m
  small : Small g
  len : g.length ≤ 8
  so : g.Pairwise fun a b => a.id < b.id
  right : Gr.RightR g
theorem GatherAt.grew {W W' : World} {x b n : Nat} {g : List Gr.Nd} {ep : Int} {m : List (Who × AkC)} (h : GatherAt W x b n g ep m) (q : Grew W W') : GatherAt W' x b n g ep m := by
  obtain ⟨v, h1, h2⟩ := h.cells
  exact ⟨⟨v, grew_heap q h1, h2.grew q⟩, h.map.grew q, h.small, h.len, h.so, h.right⟩
theorem GatherAt.ne {W : World} {x b n : Nat} {g : List Gr.Nd} {ep : Int} {m : List (Who × AkC)} (h : GatherAt W x b n g ep m) : x ≠ b := fun e => by
  obtain ⟨v, h1, -⟩ := h.cells
  exact map_nocells h.map _ _ _ (e ▸ h1)
theorem GatherAt.put {W W' : World} {x b n n' : Nat} {g : List Gr.Nd} {ep : Int} {m m' : List (Who × AkC)} (h : GatherAt W x b n g ep m) (hk : Keep b W W') (hm : MapAt ackS W' b n' m') : GatherAt W' x b n' g ep m' := by
  obtain ⟨v, h1, h2⟩ := h.cells
  exact ⟨⟨v, by rw [hk.2 x (heap_lt h1) h.ne]; exact h1, nodes_keep h2 hk (map_nocells h.map)⟩, hm, h.small, h.len, h.so, h.right⟩
end Go.Proofs.YtmdmbimfdpngaaaGreat

/-! Right manifests: plain laws. -/
namespace Gr
open Oc (be bes)
open Ga Tab
set_option linter.unusedSimpArgs false
set_option linter.unusedVariables false

/-- a manifest that may be, by the document -/
structure RightM (fits : List Vm.Ins → Prop) (m : Mf) : Prop where
  ep : 0 ≤ m.epoch ∧ m.epoch ≤ 2147483647
  pl : 0 ≤ m.plans ∧ m.plans ≤ 2147483647
  gr : RightR m.graph
  so : m.graph.Pairwise fun a b => a.id < b.id
  of : ∃ n, m.graph.head? = some n ∧ (m.offs.length : Int) = n.par
  o4 : ∀ x ∈ m.offs, 0 ≤ x ∧ x ≤ 400
  en : ∀ x ∈ m.ents, (0 ≤ x.node ∧ x.node < 8) ∧ (0 ≤ x.key ∧ x.key < 64) ∧ rightV x.c0 = true ∧ rightV x.c1 = true ∧ nz x = true
  ei : m.ents.Pairwise fun a b => num a < num b
  ek : ∀ x ∈ m.ents, ∃ n, nodeOf m.graph x.node = some n ∧ n.kind = 1
  ol : m.out.length ≤ 4000
  ou : ∀ x ∈ m.out, (0 ≤ x.sink ∧ x.sink ≤ 7) ∧ (0 ≤ x.frm ∧ x.frm ≤ 7) ∧ (0 ≤ x.key ∧ x.key < 64) ∧ rightV x.v = true
  pn : m.plan = [] ∨ OkPl fits m.plan ∧ ∀ x ∈ m.plan, cleanS x = x
theorem okV_of {v : Val} (h : rightV v = true) : okV v := by
  unfold rightV at h
  simp only [Bool.and_eq_true, decide_eq_true_eq] at h
  have h1 := into_range v.1
  have h2 := into_range v.2
  unfold okV
  omega
theorem ents_len {l : List En} (h : ∀ x ∈ l, (0 ≤ x.node ∧ x.node < 8) ∧ (0 ≤ x.key ∧ x.key < 64)) (hs : l.Pairwise fun a b => num a < num b) : l.length ≤ 512 := by
  have hnd : (l.map fun x => (num x).toNat).Nodup := by
    rw [List.Nodup, List.pairwise_map]
    refine hs.imp_of_mem fun {a b} ha hb hlt => ?_
    have h1 := h a ha
    have h2 := h b hb
    unfold num at hlt ⊢
    omega
  have := hnd.length_le_of_subset (l₂ := List.range 512) (fun y hy => by
    obtain ⟨x, hx, rfl⟩ := List.mem_map.1 hy
    have h1 := h x hx
    rw [List.mem_range]
    unfold num
    omega)
  simpa using this
section
variable {gp : List UInt8 → List Vm.Ins × Int × List UInt8} {pp : List Vm.Ins → List UInt8} {fits : List Vm.Ins → Prop}
theorem putNd_len (hl : ∀ l, fits l → (pp l).length ≤ 200) {lp : Int} {n : Nd} (h : OkB fits lp n) : (putNd pp n).length ≤ 260 := by
  unfold putNd
  simp only [List.length_append, Oc.be_len, Oc.bes_len]
  have := hl _ h.p
  have := h.m
  have := h.ol
  omega
theorem flat_len {α : Type} {f : α → List UInt8} {k : Nat} : ∀ (l : List α), (∀ x ∈ l, (f x).length ≤ k) → (l.flatMap f).length ≤ l.length * k
  | [], _ => Nat.zero_le _
  | x :: l, h => by
    rw [List.flatMap_cons, List.length_append, List.length_cons, Nat.add_mul, Nat.one_mul]
    have h1 := h x (List.mem_cons_self ..)
    have h2 := flat_len l fun y hy => h y (List.mem_cons_of_mem _ hy)
    omega
theorem putPl_len (hl : ∀ l, fits l → (pp l).length ≤ 200) {p : List Stp} (h : OkPl fits p) : (putPl pp p).length ≤ 8000 := by
  unfold putPl
  rw [List.length_append, Oc.be_len]
  have h1 := flat_len (f := putSt pp) (k := 268) p fun s hs => by
    unfold putSt
    simp only [List.length_append, Oc.be_len]
    have := putNd_len hl (h.2.2 s hs).2
    omega
  have := h.2.1
  have h2 : p.length * 268 ≤ 6 * 268 := Nat.mul_le_mul_right _ this
  omega
theorem RightM.okM {m : Mf} (h : RightM fits m) (h0 : fits []) (hs : ∀ p, Vm.safe p = true → fits p) (hr : ∀ n ∈ m.graph, n.route.length = 8) (hl : ∀ l, fits l → (pp l).length ≤ 200) : okM pp fits m := by
  refine ⟨h.ep, h.pl, ⟨?_, h.o4⟩, ⟨by have := h.gr.len; omega, h.gr.okB h0 hs hr⟩, ⟨?_, fun x hx => ?_⟩, ⟨by have := h.ol; omega, fun x hx => ?_⟩, ?_⟩
  · obtain ⟨n, hn, e⟩ := h.of
    have hm : n ∈ m.graph := List.mem_of_mem_head? hn
    obtain ⟨i, hk⟩ := h.gr.at hm
    have := hk.pr3
    omega
  · have := ents_len (fun x hx => ⟨(h.en x hx).1, (h.en x hx).2.1⟩) h.ei
    omega
  · obtain ⟨h1, h2, h3, h4, -⟩ := h.en x hx
    exact ⟨⟨⟨by omega, by omega⟩, okV_of h3⟩, okV_of h4⟩
  · obtain ⟨h1, h2, h3, h4⟩ := h.ou x hx
    exact ⟨⟨⟨h1, h2⟩, by omega⟩, okV_of h4⟩
  · rcases h.pn with e | ⟨h1, h2⟩
    · exact .inl e
    · exact .inr ⟨h1, h2, by have := putPl_len hl h1; omega⟩
end
end Gr

/-! Right manifests: the program's answer is the document's: plain laws. -/
namespace Gr
open Oc (be bes)
open Ga Tab
set_option linter.unusedSimpArgs false
set_option linter.unusedVariables false

/-- a manifest that may be, by the program; s: all that the table made of its entries keeps, by places -/
structure RightPm (fits : List Vm.Ins → Prop) (m : Mf) (s : List En) : Prop where
  ep : 0 ≤ m.epoch ∧ m.epoch ≤ 2147483647
  pl : 0 ≤ m.plans ∧ m.plans ≤ 2147483647
  gr : RightR m.graph
  so : sortedG m.graph
  ol : m.out.length ≤ 4000
  pn : m.plan = [] ∨ OkPl fits m.plan ∧ m.plan.map cleanS = m.plan
  of : ∃ n, nodeOf m.graph 0 = some n ∧ (m.offs.length : Int) = n.par
  o4 : ∀ x ∈ m.offs, 0 ≤ x ∧ x ≤ 400
  en : ∀ x ∈ m.ents, (0 ≤ x.node ∧ x.node < 8) ∧ (0 ≤ x.key ∧ x.key < 64) ∧ rightV x.c0 = true ∧ rightV x.c1 = true
  al : s = m.ents
  ft : ∀ x ∈ s, ∃ n, nodeOf m.graph x.node = some n ∧ n.kind = 1
  ou : ∀ x ∈ m.out, (0 ≤ x.sink ∧ x.sink ≤ 7) ∧ (0 ≤ x.frm ∧ x.frm ≤ 7) ∧ (0 ≤ x.key ∧ x.key < 64) ∧ rightV x.v = true
theorem strict_of {l : List Nd} (hu : (ids l).Nodup) (hs : sortedG l) : l.Pairwise fun a b => a.id < b.id := by
  have h1 : l.Pairwise fun a b => a.id ≠ b.id := by
    unfold ids at hu
    rw [List.Nodup, List.pairwise_map] at hu
    exact hu
  exact (List.Pairwise.and hs h1).imp fun h => by omega
/-- the first node is the source -/
theorem head_source {l : List Nd} (h : RightR l) (hs : l.Pairwise fun a b => a.id < b.id) : nodeOf l 0 = l.head? := by
  have hz : (0 : Int) ∈ ids l := ((right_iff (List.Perm.refl l)).1 h).z
  cases l with
  | nil => cases hz
  | cons x l =>
    obtain ⟨n, hn, e⟩ := List.mem_map.1 hz
    have hx := h.r7 x (List.mem_cons_self ..)
    have hxn : n = x := by
      rcases List.mem_cons.1 hn with h1 | h1
      · exact h1
      · have := (List.pairwise_cons.1 hs).1 n h1
        omega
    subst hxn
    have := bind_find h.ids (List.mem_cons_self (a := n) (l := l))
    rw [e] at this
    exact this
theorem map_clean_iff (p : List Stp) : p.map cleanS = p ↔ ∀ x ∈ p, cleanS x = x := by
  constructor
  · intro h x hx
    obtain ⟨i, hi, rfl⟩ := List.mem_iff_getElem.1 hx
    have h2 := congrArg (fun l => l[i]?) h
    simp only [List.getElem?_map, List.getElem?_eq_getElem hi, Option.map_some, Option.some.injEq] at h2
    exact h2
  · exact map_clean
/-- THE LAW: what the program calls right is what the document calls so. -/
theorem rightM_iff {fits : List Vm.Ins → Prop} {m : Mf} {s : List En} (hp : s.Perm (newT m.ents)) (hs : s.Pairwise fun a b => num a ≤ num b) : RightPm fits m s ↔ RightM fits m := by
  constructor
  · intro h
    have hst := strict_of h.gr.ids h.so
    obtain ⟨e1, e2⟩ := (all_iff hp hs).1 h.al
    refine ⟨h.ep, h.pl, h.gr, hst, ?_, h.o4, fun x hx => ?_, e1, fun x hx => h.ft x (by rw [h.al]; exact hx), h.ol, h.ou, h.pn.imp id fun q => ⟨q.1, (map_clean_iff _).1 q.2⟩⟩
    · rw [← head_source h.gr hst]
      exact h.of
    · obtain ⟨a1, a2, a3, a4⟩ := h.en x hx
      exact ⟨a1, a2, a3, a4, e2 x hx⟩
  · intro h
    have hal := (all_iff hp hs).2 ⟨h.ei, fun x hx => (h.en x hx).2.2.2.2⟩
    refine ⟨h.ep, h.pl, h.gr, h.so.imp fun h => by omega, h.ol, h.pn.imp id fun q => ⟨q.1, (map_clean_iff _).2 q.2⟩, ?_, h.o4, fun x hx => ?_, hal, fun x hx => h.ek x (by rw [← hal]; exact hx), h.ou⟩
    · rw [head_source h.gr h.so]
      exact h.of
    · obtain ⟨a1, a2, a3, a4, -⟩ := h.en x hx
      exact ⟨a1, a2, a3, a4⟩
end Gr

/-! What each task begins with: plain laws. -/
namespace Gr
open Tab Ga
set_option linter.unusedSimpArgs false
set_option linter.unusedVariables false

/-- a key's task at a node -/
def taskOf (n : Nd) (k : Int) : Int := n.route.getD (k % 8).toNat 0
def partE (n : Nd) (t : Int) (l : List En) : List En := l.filter fun x => x.node == n.id && taskOf n x.key == t
def partsN (n : Nd) (l : List En) : List (List En) := (List.range n.par.toNat).map fun t => partE n (t : Nat) l
def many (g : List Nd) (l : List En) : Nat := (g.map fun n => ((List.range n.par.toNat).map fun t => (partE n (t : Nat) l).length).sum).sum
theorem partE_cons (n : Nd) (t : Int) (x : En) (l : List En) : (partE n t (x :: l)).length = (if x.node == n.id && taskOf n x.key == t then 1 else 0) + (partE n t l).length := by
  unfold partE
  rw [List.filter_cons]
  split
  · rw [List.length_cons]; omega
  · omega
theorem sum_add {α : Type} (f g : α → Nat) : ∀ l : List α, (l.map fun x => f x + g x).sum = (l.map f).sum + (l.map g).sum
  | [] => rfl
  | x :: l => by simp only [List.map_cons, List.sum_cons, sum_add f g l]; omega
theorem sum_zero {α : Type} (f : α → Nat) : ∀ l : List α, (∀ x ∈ l, f x = 0) → (l.map f).sum = 0
  | [], _ => rfl
  | x :: l, h => by
    rw [List.map_cons, List.sum_cons, sum_zero f l fun y hy => h y (List.mem_cons_of_mem _ hy), h x (List.mem_cons_self ..)]
theorem sum_one {α : Type} (f : α → Nat) {a : α} : ∀ l : List α, a ∈ l → f a = 1 → l.Nodup → (∀ x ∈ l, x ≠ a → f x = 0) → (l.map f).sum = 1
  | [], h, _, _, _ => by cases h
  | x :: l, h, h1, hn, h0 => by
    rw [List.map_cons, List.sum_cons]
    obtain ⟨hx, hl⟩ := List.nodup_cons.1 hn
    by_cases e : x = a
    · subst e
      rw [h1, sum_zero f l fun y hy => h0 y (List.mem_cons_of_mem _ hy) fun e => hx (e ▸ hy)]
    · rw [h0 x (List.mem_cons_self ..) e, sum_one f l ((List.mem_cons.1 h).resolve_left fun q => e q.symm) h1 hl fun y hy => h0 y (List.mem_cons_of_mem _ hy)]
/-- each entry is some task's, once -/
theorem many_eq {g : List Nd} (hu : (ids g).Nodup) (hr : ∀ n ∈ g, ∀ k : Int, 0 ≤ k → 0 ≤ taskOf n k ∧ taskOf n k < n.par) : ∀ (l : List En), (∀ x ∈ l, 0 ≤ x.key ∧ ∃ n ∈ g, n.id = x.node) → many g l = l.length
  | [], _ => by
    unfold many
    refine sum_zero _ g fun n _ => sum_zero _ _ fun t _ => rfl
  | x :: l, h => by
    have ih := many_eq hu hr l fun y hy => h y (List.mem_cons_of_mem _ hy)
    obtain ⟨hk, n, hn, hid⟩ := h x (List.mem_cons_self ..)
    have hone : (g.map fun n => ((List.range n.par.toNat).map fun (t : Nat) => if x.node == n.id && taskOf n x.key == (t : Int) then 1 else 0).sum).sum = 1 := by
      refine sum_one _ g hn ?_ (nodup_of_ids hu) fun m hm hne => ?_
      · obtain ⟨t0, t1⟩ := hr n hn x.key hk
        refine sum_one _ (a := (taskOf n x.key).toNat) _ (List.mem_range.2 (by omega)) ?_ List.nodup_range fun t _ ht => ?_
        · rw [hid, Int.toNat_of_nonneg t0]
          simp
        · rw [hid]
          have : taskOf n x.key ≠ (t : Int) := fun e => ht (by omega)
          simp [this]
      · refine sum_zero _ _ fun t _ => ?_
        have : x.node ≠ m.id := fun e => hne (by
          have h1 := bind_find hu hn
          have h2 := bind_find hu hm
          rw [hid, e, h2] at h1
          exact Option.some.inj h1)
        simp [this]
    rw [List.length_cons, ← ih]
    unfold many
    have he : (fun n : Nd => ((List.range n.par.toNat).map fun (t : Nat) => (partE n (t : Int) (x :: l)).length).sum) = fun n => ((List.range n.par.toNat).map fun (t : Nat) => if x.node == n.id && taskOf n x.key == (t : Int) then 1 else 0).sum + ((List.range n.par.toNat).map fun (t : Nat) => (partE n (t : Int) l).length).sum := by
      funext n
      rw [← sum_add]
      congr 2
      funext t
      exact partE_cons n t x l
    rw [he, sum_add, hone]
    omega
theorem taskOf_range {n : Nd} (h8 : n.route.length = 8) (hr : ∀ g ∈ n.route, 0 ≤ g ∧ g < n.par) (k : Int) : 0 ≤ taskOf n k ∧ taskOf n k < n.par := by
  unfold taskOf
  have h1 : (k % 8).toNat < n.route.length := by omega
  rw [List.getD_eq_getElem?_getD, List.getElem?_eq_getElem h1]
  exact hr _ (List.getElem_mem h1)
end Gr
