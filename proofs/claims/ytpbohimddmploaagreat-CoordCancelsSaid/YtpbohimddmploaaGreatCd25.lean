import Derived.Test.YtpbohimddmploaaGreatCd12
import Derived.Test.YtpbohimddmploaaGreatCd15
import Derived.Test.YtpbohimddmploaaGreatCd21
set_option linter.unusedSimpArgs false
set_option linter.unusedVariables false
set_option maxRecDepth 100000
set_option maxHeartbeats 64000000
namespace Go.Proofs.YtpbohimddmploaaGreat
open Go.RowKit Ga

abbrev Who := Int × Int
def whK (x : Who) : Value := .agg #[.int .i64 x.1, .int .i64 x.2]
theorem whK_inj (a b : Who) (h : whK a = whK b) : a = b := by
  obtain ⟨a1, a2⟩ := a
  obtain ⟨b1, b2⟩ := b
  unfold whK at h
  simp at h
  obtain ⟨rfl, rfl⟩ := h
  rfl
def okWho (x : Who) : Prop := (-9223372036854775808 ≤ x.1 ∧ x.1 ≤ 9223372036854775807) ∧ (-9223372036854775808 ≤ x.2 ∧ x.2 ≤ 9223372036854775807)
theorem keyTypeW : Tryz.prog.keyType 182 = true := by kernel_rfl
theorem cellsW : Tryz.prog.cellsOf 182 = 2 := by kernel_rfl
theorem who_law : Maps.Keyed Tryz.prog 182 := Maps.Keyed.of_law (deep_law_laid laidOutC (m := 3) (by decide) (of_decide_eq_true (by kernel_rfl)) (by kernel_rfl) (by kernel_rfl))
theorem keyW (x : Who) (h : okWho x) : ∃ kl, keyOf Tryz.prog 182 (whK x) = some kl := by
  have w1 := WalkArith.wf_i64 h.1
  have w2 := WalkArith.wf_i64 h.2
  unfold whK keyOf
  obtain ⟨m, hm⟩ := Nat.exists_eq_succ_of_ne_zero sizeC
  simp only [Tryz.underlying182, keyTypeW, hm]
  simp [Value.formed, Tryz.underlying182, cellsW, Program.keyLits, Value.cells, Tryz.underlying3, cellsCI, w1, w2]
structure AkC where
  node : Int
  ix : Int
  ep : Int
  ae : Option Addr
  ne : Nat
  ce : Nat
  ax : Option Addr
  nx : Nat
  cx : Nat
  off : Int
def AkC.zero : AkC := ⟨0, 0, 0, none, 0, 0, none, 0, 0, 0⟩
def akv (c : AkC) : Value := .agg #[.int .i64 c.node, .int .i64 c.ix, .int .i64 c.ep, .slice c.ae c.ne c.ce, .slice c.ax c.nx c.cx, .int .i64 c.off]
def adD : Option Addr → DataW Unit
  | none => .nil
  | some ⟨b, o, none⟩ => .agg [.lit (.int .i64 b), .lit (.int .i64 o)]
  | some ⟨b, o, some s⟩ => .agg [.lit (.int .i64 b), .lit (.int .i64 o), .lit (.int .i64 s)]
theorem adD_inj : ∀ a b, adD a = adD b → a = b
  | none, none, _ => rfl
  | none, some ⟨_, _, none⟩, h => by cases h
  | none, some ⟨_, _, some _⟩, h => by cases h
  | some ⟨_, _, none⟩, none, h => by cases h
  | some ⟨_, _, some _⟩, none, h => by cases h
  | some ⟨a, b, none⟩, some ⟨c, d, none⟩, h => by
    unfold adD at h
    simp at h
    obtain ⟨h1, h2⟩ := h
    obtain rfl : a = c := by omega
    obtain rfl : b = d := by omega
    rfl
  | some ⟨_, _, none⟩, some ⟨_, _, some _⟩, h => by simp [adD] at h
  | some ⟨_, _, some _⟩, some ⟨_, _, none⟩, h => by simp [adD] at h
  | some ⟨a, b, some e⟩, some ⟨c, d, some f⟩, h => by
    unfold adD at h
    simp at h
    obtain ⟨h1, h2, h3⟩ := h
    obtain rfl : a = c := by omega
    obtain rfl : b = d := by omega
    obtain rfl : e = f := by omega
    rfl
def akDat (c : AkC) : DataW Unit := .agg [.lit (.int .i64 c.node), .lit (.int .i64 c.ix), .lit (.int .i64 c.ep), adD c.ae, .lit (.int .i64 c.ne), .lit (.int .i64 c.ce), adD c.ax, .lit (.int .i64 c.nx), .lit (.int .i64 c.cx), .lit (.int .i64 c.off)]
def akL : List Value → Option (DataW Unit × List MemPlace)
  | [.int .i64 a, .int .i64 b, .int .i64 c, .slice s n k, .slice s2 n2 k2, .int .i64 o] => some (akDat ⟨a, b, c, s, n, k, s2, n2, k2, o⟩, [])
  | _ => none
def akR : Value → Option (DataW Unit × List MemPlace)
  | .agg c => akL c.toList
  | _ => none
theorem akDat_inj {a b : AkC} (h : akDat a = akDat b) : a = b := by
  obtain ⟨a1, a2, a3, a4, a5, a6, a7, a8, a9, a10⟩ := a
  obtain ⟨b1, b2, b3, b4, b5, b6, b7, b8, b9, b10⟩ := b
  unfold akDat at h
  simp at h
  obtain ⟨rfl, rfl, rfl, h4, h5, h6, h7, h8, h9, rfl⟩ := h
  rw [adD_inj _ _ h4, adD_inj _ _ h7, show a5 = b5 by omega, show a6 = b6 by omega, show a8 = b8 by omega, show a9 = b9 by omega]
theorem akR_inv (u : Value) (ps : List MemPlace) (v : AkC) (h : akR u = some (akDat v, ps)) : u = akv v := by
  cases u with
  | agg c =>
    obtain ⟨c⟩ := c
    have h2 : akL c = some (akDat v, ps) := h
    unfold akL at h2
    split at h2
    · injection h2 with h3
      injection h3 with h4 _
      have := akDat_inj h4
      rw [← this]
      rfl
    · cases h2
  | _ => cases h
def ackS : MSpec Who AkC where
  kt := 182
  law := who_law
  kenc := whK
  kinj := whK_inj
  ok := okWho
  key := keyW
  venc := akv
  dat := akDat
  R := akR
  rmk := fun v => rfl
  rinv := akR_inv
theorem zeroAck (w : World) : (zeroValue 59).run Tryz.prog w = .ok (akv AkC.zero) w := by kernel_rfl
theorem rows_keep {α : Type} {k : Nat} {enc : α → List Value} {w w' : World} {v : Value} {l : List α} {b : Nat} (h : RowsAt k enc w v l) (hk : Keep b w w') (hb : ∀ c t f, w.heap[b]? ≠ some (.cells c t f)) : RowsAt k enc w' v l := by
  obtain ⟨a, cap, rfl, hm, hx⟩ := h
  refine ⟨a, cap, rfl, hm, fun hne => ?_⟩
  obtain ⟨q, off, rfl, hc⟩ := hx hne
  refine ⟨q, off, rfl, fun i x hi j u hu => ?_⟩
  have h1 := hc i x hi j u hu
  have h2 := World.block_lt_of_cell? w _ h1
  have hq : q ≠ b := by
    rintro rfl
    unfold World.cell? at h1
    split at h1
    · rename_i e
      exact hb _ _ _ e
    · cases h1
  unfold World.cell? at h1 ⊢
  simp only at h1 h2 ⊢
  rw [hk.2 q h2 hq]
  exact h1
theorem nodes_keep {w w' : World} {v : Value} {l : List Gr.Nd} {b : Nat} (h : NodesAt w v l) (hk : Keep b w w') (hb : ∀ c t f, w.heap[b]? ≠ some (.cells c t f)) : NodesAt w' v l := by
  obtain ⟨lc, h1, h2, h3⟩ := h
  exact ⟨lc, rows_keep h1 hk hb, h2, fun i c n hc hn => let q := h3 i c n hc hn; { q with f := rows_keep q.f hk hb, p := rows_keep q.p hk hb }⟩
theorem map_nocells {κ ν : Type} {S : MSpec κ ν} {W : World} {b n : Nat} {m : List (κ × ν)} (h : MapAt S W b n m) : ∀ c t f, W.heap[b]? ≠ some (.cells c t f) := by
  obtain ⟨D, ⟨es, c, h1, -⟩, -⟩ := h
  intro c t f e
  rw [h1] at e
  cases e
structure GatherAt (W : World) (x b n : Nat) (g : List Gr.Nd) (ep : Int) (m : List (Who × AkC)) : Prop where
  cells : ∃ v, W.heap[x]? = some (.cells #[v, .int .i64 ep, .map (some b)] 176) ∧ NodesAt W v g
  map : MapAt ackS W b n m
  small : Small g
  len : g.length ≤ 8
  so : g.Pairwise fun a b => a.id < b.id
  right : Gr.RightR g
theorem GatherAt.grew {W W' : World} {x b n : Nat} {g : List Gr.Nd} {ep : Int} {m : List (Who × AkC)} (h : GatherAt W x b n g ep m) (q : Grew W W') : GatherAt W' x b n g ep m := by
  obtain ⟨v, h1, h2⟩ := h.cells
  exact ⟨⟨v, grew_heap q h1, h2.grew q⟩, h.map.grew q, h.small, h.len, h.so, h.right⟩
theorem GatherAt.ne {W : World} {x b n : Nat} {g : List Gr.Nd} {ep : Int} {m : List (Who × AkC)} (h : GatherAt W x b n g ep m) : x ≠ b := fun e => by
  obtain ⟨v, h1, -⟩ := h.cells
  exact map_nocells h.map _ _ _ (e ▸ h1)
theorem GatherAt.put {W W' : World} {x b n n' : Nat} {g : List Gr.Nd} {ep : Int} {m m' : List (Who × AkC)} (h : GatherAt W x b n g ep m) (hk : Keep b W W') (hm : MapAt ackS W' b n' m') : GatherAt W' x b n' g ep m' := by
  obtain ⟨v, h1, h2⟩ := h.cells
  exact ⟨⟨v, by rw [hk.2 x (heap_lt h1) h.ne]; exact h1, nodes_keep h2 hk (map_nocells h.map)⟩, hm, h.small, h.len, h.so, h.right⟩
end Go.Proofs.YtpbohimddmploaaGreat
