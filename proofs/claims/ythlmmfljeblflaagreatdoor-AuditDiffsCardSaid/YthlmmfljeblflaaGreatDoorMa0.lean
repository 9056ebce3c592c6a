import Derived.Test.YthlmmfljeblflaaGreatDoorMc37
import Derived.Test.YthlmmfljeblflaaGreatDoorMc20
import Derived.Test.YthlmmfljeblflaaGreatDoorMc0
import Derived.Laws.AppendOwnNone
import Derived.Test.YthlmmfljeblflaaGreatDoorMc2
import Derived.Test.YthlmmfljeblflaaGreatDoorMc38
import Derived.Test.YthlmmfljeblflaaGreatDoorMc22
import Derived.Test.YthlmmfljeblflaaGreatDoorMc9
import Derived.Test.YthlmmfljeblflaaGreatDoorMc31
import Derived.Test.YthlmmfljeblflaaGreatDoorMc28
import Derived.Deep.QuietTactic
import Derived.BigQuiet
import Derived.Deep.LoopGhost
import Derived.Deep.RegionHeld3
import Derived.Deep.CutBlock
/-! audit.Diff: what it tells, and appends of the call's own. -/
namespace Go
set_option linter.unusedSimpArgs false
set_option linter.unusedVariables false
theorem run_ownL {α : Type} {e : TypeId} {k : Nat} {enc : α → List Value} {w0 : World} {base2 : Nat} {v v2 : Value} {l l2 : List α} {P : Program} {W : World} (t ty : TypeId) (z : Value) (bytes : Nat)
    (ht : P.underlying t = some (.slice e)) (hinfo : (P.info? e).map (fun i => (i.zero, i.size, i.bytes)) = some (some z, k, bytes)) (hz : z.cells.size = k) (hk : 0 < k)
    (henc : ∀ x, (enc x).length = k) (hone : ∀ x, ∀ u ∈ enc x, u.oneCell' = true)
    (hown : OwnAt w0.heap.size e k enc W v l) (hg : Grew w0 W) (hown2 : OwnAt base2 e k enc W v2 l2)
    (hlen : l.length + l2.length ≤ 1000000) (hby : bytes ≤ 1000) :
    ∃ v' W', (Builtin.append_ #[t, t] ty #[v, v2]).run P W = .ok v' W' ∧ Appended w0 e k enc W v (l ++ l2) v' W' := by
  rcases hown2.form with ⟨hv2, hl2⟩ | ⟨b, c0, hv2, _, _, _⟩
  · subst hv2 hl2
    obtain ⟨i, hi, _, _, _⟩ := info_parts hinfo
    refine ⟨v, W, run_append_owned_none (P := P) (w := W) w0.heap.size t ty e i k ht hi v l.length (l.flatMap enc) hown, ?_⟩
    rw [List.append_nil]
    exact ⟨hg, hown, Nat.le_refl _, fun _ _ _ => rfl, fun q hq => .inl hq⟩
  · have hr := hown2.rows henc
    have hb : ∀ j u, (l2.flatMap enc)[j]? = some u → W.cell? ⟨b, j, none⟩ = some u := by
      intro j u hj
      obtain ⟨q, y, r, h1, h2, rfl⟩ := flat_inv henc l2 j u hj
      obtain ⟨a2, cap2, hv3, _, hc2⟩ := hr
      obtain ⟨b3, off, hb3, hcell⟩ := hc2 (by intro e; subst e; simp at h1)
      subst hv2
      cases hv3
      cases hb3
      have := hcell q y h1 r u h2
      simpa using this
    subst hv2
    exact run_ownK t ty z bytes c0 b l2 ht hinfo hz hk henc hone hown hg hb hlen hby
theorem own_undrew {α : Type} {base : Nat} {e : TypeId} {k : Nat} {enc : α → List Value} {A : World} {R : Array Obj} {n : Nat} {v : Value} {l : List α} (h : OwnAt base e k enc (A.drew.more R n) v l) : OwnAt base e k enc (A.more R n) v l := OwnAt.same h fun _ _ => rfl
theorem own_undrew2 {α : Type} {base : Nat} {e : TypeId} {k : Nat} {enc : α → List Value} {A : World} {R R2 : Array Obj} {n n2 : Nat} {v : Value} {l : List α} (h : OwnAt base e k enc ((A.drew.more R n).more R2 n2) v l) : OwnAt base e k enc ((A.more R n).more R2 n2) v l := OwnAt.same h fun _ _ => rfl
theorem wanted_none {o : Oper} {y : Nat → Option Bool} (h : o.guard = none) : Region.wanted o y = true := by simp [Region.wanted, h]
theorem if_wanted {c : Prop} [Decidable c] {A B : Prop} (hc : c) (h : A) : if c then A else B := by rw [if_pos hc]; exact h
theorem wp_ownL {α : Type} {e : TypeId} {k : Nat} {enc : α → List Value} {w0 : World} {base2 : Nat} {v v2 : Value} {l l2 : List α} {P : Program} {o : Oper} {a : Act} {K : Act → World → Prop} {Q : Exit → Act → World → Prop} {W : World}
    (s x : Operand) (t : TypeId) (z : Value) (bytes : Nat)
    (ho : o.op = .call { callee := .builtin .append, args := #[s, x], argTypes := #[t, t] })
    (ht : P.underlying t = some (.slice e)) (hinfo : (P.info? e).map (fun i => (i.zero, i.size, i.bytes)) = some (some z, k, bytes)) (hz : z.cells.size = k) (hk : 0 < k)
    (henc : ∀ x, (enc x).length = k) (hone : ∀ x, ∀ u ∈ enc x, u.oneCell' = true)
    (hs : a.eval s = v) (hown : OwnAt w0.heap.size e k enc W v l) (hg : Grew w0 W)
    (hx : a.eval x = v2) (hown2 : OwnAt base2 e k enc W v2 l2)
    (hlen : l.length + l2.length ≤ 1000000) (hby : bytes ≤ 1000)
    (h : ∀ v' W', Appended w0 e k enc W v (l ++ l2) v' W' → K (a.put o.dst v') W') : Oper.wp P o a W K Q := by
  obtain ⟨v', W', hrun, hA⟩ := run_ownL (P := P) t o.type z bytes ht hinfo hz hk henc hone hown hg hown2 hlen hby
  unfold Oper.wp
  simp [execOp, ho, resolve, invoke, builtin, hs, hx, hrun, Result.andThen]
  exact h v' W' hA
end Go
namespace Go.Proofs.YthlmmfljeblflaaGreatDoor
open Go.RowKit Ga
set_option maxRecDepth 100000

noncomputable def unlG (a b : List Gr.Nd) : List (List UInt8) := unlA a b (idsN ((a ++ b).map (·.id)))
noncomputable def diffA (a b : Gr.Mf) : List (List UInt8) := unlG a.graph b.graph ++ cellsA a.ents b.ents
theorem nodes_ids {w : World} {lc : List NdC} {l : List Gr.Nd} (hl : lc.length = l.length) (h : ∀ (i : Nat) (c : NdC) (n : Gr.Nd), lc[i]? = some c → l[i]? = some n → NodeIs w c n) : lc.map (·.id) = l.map (·.id) := by
  refine List.ext_getElem (by simp [hl]) fun i h1 h2 => ?_
  rw [List.length_map] at h1 h2
  rw [List.getElem_map, List.getElem_map]
  exact (h i lc[i] l[i] (List.getElem?_eq_getElem h1) (List.getElem?_eq_getElem h2)).id.symm
theorem cellsA_len (l1 l2 : List Tab.En) : (cellsA l1 l2).length ≤ 512 := by
  unfold cellsA
  split
  · exact difT_len _ _ _
  · exact Nat.zero_le _
theorem unlG_len (a b : List Gr.Nd) (ha : a.length ≤ 100) (hb : b.length ≤ 100) : (unlG a b).length ≤ 200 :=
  Nat.le_trans (unlA_len _ _ _) (Nat.le_trans (idsN_len _) (by simp; omega))
theorem unlG_any (v1 v2 : Value) (ga gb : List Gr.Nd) (w : World) (h1 : NodesAt w v1 ga) (h2 : NodesAt w v2 gb) (n1 : NilOr v1 ga.length) (n2 : NilOr v2 gb.length) (l1 : ga.length ≤ 100) (l2 : gb.length ≤ 100) (sa : Small ga) (sb : Small gb) (hid : ∀ x ∈ (ga ++ gb).map (·.id), -1099511627776 ≤ x ∧ x ≤ 1099511627776) (hP : Pow w) :
    Calls Tryz.prog 23 #[v1, v2] w (StrsPost w (unlG ga gb)) := by
  obtain ⟨la, r1, e1, i1⟩ := id h1
  obtain ⟨lb, r2, e2, i2⟩ := id h2
  have d1 := nodes_ids e1 i1
  have d2 := nodes_ids e2 i2
  obtain ⟨a1, c1, rfl⟩ := r1.len
  obtain ⟨a2, c2, rfl⟩ := r2.len
  have hd : (la ++ lb).map (·.id) = (ga ++ gb).map (·.id) := by rw [List.map_append, List.map_append, d1, d2]
  have := unlike28_any c1 c2 a1 a2 la lb ga gb w r1 r2 (by rw [e1]; rw [e1] at n1; exact n1) (by rw [e2]; rw [e2] at n2; exact n2) (by omega) (by omega) h1 h2 sa sb (by rw [hd]; exact hid) hP
  rw [hd] at this
  exact this
end Go.Proofs.YthlmmfljeblflaaGreatDoor

/-! append of a slice that is read, as a step of a region that draws. -/
namespace Go
set_option linter.unusedSimpArgs false
set_option linter.unusedVariables false
theorem wp_ownR {α : Type} {e : TypeId} {k : Nat} {enc : α → List Value} {w0 : World} {v vx : Value} {l l2 : List α} {P : Program} {o : Oper} {a : Act} {K : Act → World → Prop} {Q : Exit → Act → World → Prop} {W : World}
    (s x : Operand) (t : TypeId) (z : Value) (bytes : Nat)
    (ho : o.op = .call { callee := .builtin .append, args := #[s, x], argTypes := #[t, t] })
    (ht : P.underlying t = some (.slice e)) (hinfo : (P.info? e).map (fun i => (i.zero, i.size, i.bytes)) = some (some z, k, bytes)) (hz : z.cells.size = k) (hk : 0 < k)
    (henc : ∀ x, (enc x).length = k) (hone : ∀ x, ∀ u ∈ enc x, u.oneCell' = true)
    (hs : a.eval s = v) (hown : OwnAt w0.heap.size e k enc W v l) (hg : Grew w0 W)
    (hx : a.eval x = vx) (hrows : RowsAt k enc W vx l2) (hnil : vx = .slice none 0 0 ∨ ∃ ad c, vx = .slice (some ad) l2.length c)
    (hlen : l.length + l2.length ≤ 1000000) (hby : bytes ≤ 1000)
    (h : ∀ v' R N, OwnAt w0.heap.size e k enc (w0.more R N) v' (l ++ l2) → K (a.put o.dst v') (w0.more R N)) : Oper.wp P o a W K Q := by
  obtain ⟨i, hi, hz0, hz1, hz2⟩ := info_parts hinfo
  obtain ⟨a2, cap2, hv2, hm2, hc2⟩ := hrows
  rcases hnil with h0 | ⟨ad, c, h0⟩
  · subst h0
    have hl0 : l2 = [] := by
      injection hv2 with _ h1 _
      exact List.eq_nil_of_length_eq_zero h1.symm
    subst hl0
    have hrun := run_append_owned_none (P := P) (w := W) w0.heap.size t o.type e i k ht hi v l.length (l.flatMap enc) hown
    obtain ⟨R, N, rfl⟩ := hg
    unfold Oper.wp
    simp [execOp, ho, resolve, invoke, builtin, hs, hx, hrun, Result.andThen]
    refine h v R N ?_
    rw [List.append_nil]; exact hown
  · subst h0
    have hmul : (l.length + l2.length) * bytes ≤ 1000000 * 1000 := Nat.mul_le_mul hlen hby
    obtain ⟨v', W', hrun, h1, h2, _⟩ := run_append_own (P := P) W w0.heap.size t o.type e i z k bytes ht hi hz0 hz1 hz2 hz hk v l.length (l.flatMap enc) hown ad l2.length c (l2.flatMap enc) (flat_length henc l2) (by
      intro j u hj
      obtain ⟨q, y, r, h1, h2, rfl⟩ := flat_inv henc l2 j u hj
      obtain ⟨b, off, hb, hcell⟩ := hc2 (by intro e; subst e; simp at h1)
      cases hv2
      cases hb
      rw [addr_add_off, ← Nat.add_assoc]
      exact hcell q y h1 r u h2) (by
      intro u hu
      obtain ⟨y, _, hy⟩ := List.mem_flatMap.1 hu
      exact hone y u hy) (by unfold maxLen; omega) (by omega) hg.below.size
    obtain ⟨R, N, rfl⟩ := hg.grown h2 (fun q hq => OwnAt.lt hown q hq)
    unfold Oper.wp
    simp [execOp, ho, resolve, invoke, builtin, hs, hx, hrun, Result.andThen]
    refine h v' R N ?_
    unfold OwnAt
    rw [List.length_append, List.flatMap_append]
    exact h1
end Go
namespace Go.Proofs.YthlmmfljeblflaaGreatDoor
open Go.RowKit Ga
set_option maxRecDepth 100000
theorem find_two (l : List Gr.Nd) (id : Int) : (findI l id = -1 ∧ Gr.nodeOf l id = none) ∨ ∃ (i : Nat) (h : i < l.length), findI l id = i ∧ Gr.nodeOf l id = some l[i] := by
  unfold findI Gr.nodeOf
  cases hf : Gr.find l id with
  | none => exact .inl ⟨rfl, rfl⟩
  | some i =>
    have hi : i < l.length := by
      unfold Gr.find at hf
      exact (List.findIdx?_eq_some_iff_getElem.1 hf).1
    exact .inr ⟨i, hi, rfl, by rw [Option.bind_some, List.getElem?_eq_getElem hi]⟩
theorem nodeOf_has {l : List Gr.Nd} {id : Int} (h : id ∈ l.map (·.id)) : Gr.nodeOf l id ≠ none := by
  obtain ⟨n, hn, rfl⟩ := List.mem_map.1 h
  obtain ⟨j, hj, rfl⟩ := List.mem_iff_getElem.1 hn
  unfold Gr.nodeOf Gr.find
  cases hf : l.findIdx? (fun m => m.id == l[j].id) with
  | none => exact absurd (List.findIdx?_eq_none_iff.1 hf _ (List.getElem_mem hj)) (by simp)
  | some i =>
    have hi := (List.findIdx?_eq_some_iff_getElem.1 hf).1
    rw [Option.bind_some, List.getElem?_eq_getElem hi]
    exact fun q => by cases q
theorem unlA_self (l : List Gr.Nd) (ids : List Int) (h : ∀ x ∈ ids, x ∈ l.map (·.id)) : unlA l l ids = [] := by
  unfold unlA
  rw [List.flatMap_eq_nil_iff]
  intro x hx
  have h1 := nodeOf_has (h x hx)
  unfold unlT
  cases hn : Gr.nodeOf l x with
  | none => exact absurd hn h1
  | some n => simp only [eqNd_true rfl, if_true]
theorem cellsA_self (l : List Tab.En) : cellsA l l = [] := by
  unfold cellsA
  split
  · unfold difT
    rw [List.flatMap_eq_nil_iff]
    intro i _
    unfold difC
    rw [if_neg (by unfold neqC; simp)]
  · rfl
theorem diffA_self (m : Gr.Mf) : diffA m m = [] := by
  unfold diffA unlG
  rw [cellsA_self, List.append_nil]
  refine unlA_self _ _ fun x hx => ?_
  have := idsN_sub hx
  rw [List.map_append, List.mem_append] at this
  exact this.elim id id
theorem unlG_eq (a b : List Gr.Nd) : unlG a b = unlA a b (insL ((a ++ b).map (·.id))) := by
  unfold unlG idsN
  rw [insL_eq (sortI_perm _) (sortI_sorted _)]
end Go.Proofs.YthlmmfljeblflaaGreatDoor

/-! AuditDiffs, cut: the frame; the head. -/
namespace Go.Proofs.YthlmmfljeblflaaGreatDoor
set_option linter.unusedSimpArgs false
set_option linter.unusedVariables false
open Go.RowKit Ga
set_option maxRecDepth 100000

def frame28 (u : Nat → Value) : Act := { tmps := #[u 0, u 1, u 2, u 3, u 4, u 5, u 6, u 7, u 8, u 9, u 10, u 11, u 12, u 13, u 14, u 15, u 16, u 17, u 18, u 19, u 20, u 21, u 22, u 23, u 24, u 25, u 26, u 27, u 28, u 29, u 30, u 31, u 32, u 33, u 34, u 35, u 36, u 37, u 38, u 39, u 40, u 41, u 42, u 43, u 44, u 45, u 46, u 47, u 48, u 49, u 50, u 51, u 52, u 53, u 54, u 55, u 56, u 57, u 58, u 59, u 60, u 61, u 62, u 63, u 64, u 65, u 66, u 67, u 68, u 69, u 70, u 71, u 72, u 73, u 74, u 75, u 76, u 77, u 78, u 79, u 80, u 81, u 82, u 83, u 84, u 85, u 86, u 87, u 88, u 89, u 90, u 91, u 92, u 93, u 94, u 95, u 96, u 97, u 98, u 99, u 100, u 101, u 102, u 103, u 104, u 105, u 106, u 107, u 108, u 109, u 110, u 111, u 112, u 113, u 114, u 115, u 116, u 117, u 118, u 119, u 120, u 121, u 122, u 123, u 124, u 125, u 126, u 127, u 128, u 129, u 130, u 131, u 132, u 133, u 134, u 135, u 136, u 137, u 138, u 139, u 140, u 141, u 142, u 143, u 144, u 145, u 146, u 147, u 148, u 149, u 150, u 151, u 152, u 153, u 154, u 155, u 156, u 157, u 158, u 159, u 160, u 161, u 162, u 163, u 164, u 165, u 166, u 167, u 168, u 169, u 170, u 171, u 172, u 173, u 174, u 175, u 176, u 177, u 178, u 179, u 180, u 181, u 182, u 183, u 184, u 185, u 186, u 187, u 188, u 189, u 190, u 191, u 192, u 193, u 194, u 195, u 196, u 197, u 198, u 199, u 200, u 201, u 202, u 203, u 204, u 205, u 206, u 207, u 208, u 209, u 210, u 211, u 212, u 213, u 214, u 215, u 216, u 217, u 218, u 219, u 220, u 221, u 222, u 223, u 224, u 225, u 226, u 227, u 228, u 229, u 230, u 231, u 232, u 233, u 234, u 235, u 236, u 237, u 238, u 239, u 240, u 241, u 242, u 243, u 244, u 245, u 246, u 247, u 248, u 249, u 250, u 251, u 252, u 253, u 254, u 255, u 256, u 257, u 258, u 259, u 260, u 261, u 262, u 263, u 264, u 265, u 266, u 267, u 268, u 269, u 270, u 271, u 272, u 273, u 274, u 275], defers := [] }
def starts28 (n : Nat) : Code → Bool
  | .region k _ _ => k == n
  | .seq a _ => starts28 n a
  | _ => false
/-- the code from region n on -/
def from28 (n : Nat) : Code → Option Code
  | .seq a b => if starts28 n a then some (.seq a b) else match from28 n a with
    | some c => some c
    | none => from28 n b
  | .loop c => from28 n c
  | .block _ c => from28 n c
  | .scope c => from28 n c
  | .cond _ a b => match from28 n a with
    | some c => some c
    | none => from28 n b
  | _ => none
/-- the code behind region n, in its own sequence -/
def past28 (n : Nat) : Code → Option Code
  | .seq a b => match a with
    | .region k o d => if k == n then some b else past28 n b
    | a => match past28 n a with
      | some c => some c
      | none => past28 n b
  | .loop c => past28 n c
  | .block _ c => past28 n c
  | .scope c => past28 n c
  | .cond _ a b => match past28 n a with
    | some c => some c
    | none => past28 n b
  | _ => none
noncomputable def tail28 (n : Nat) : Code := (Tryz.f4.body.bind (from28 n)).getD .skip
noncomputable def rest28 (n : Nat) : Code := (Tryz.f4.body.bind (past28 n)).getD .skip
structure Pre28 (w0 : World) (x y : Nat) (c d : MfC) (a : Act) (W : World) : Prop where
  fr : a = frame28 fun i => a.tmps.getD i undef
  t2 : a.tmps.getD 2 undef = .pointer (some ⟨x, 0, none⟩)
  t3 : a.tmps.getD 3 undef = .pointer (some ⟨y, 0, none⟩)
  g : Grew w0 W
  bx : w0.heap[x]? = some (.cells (encMf c).toArray 35)
  yb : w0.heap[y]? = some (.cells (encMf d).toArray 35)
structure Ret28 (w0 : World) (a : Act) (W : World) : Prop where
  t4 : a.tmps.getD 4 undef = .bool true
  d : a.defers = []
  g : Grew w0 W
theorem mfs_two (W : World) (c d : MfC) (ma mb : Gr.Mf) (t : TypeId) (b : Nat) (hb : b = W.heap.size) (h1 : MfIs W c ma) (h2 : MfIs W d mb) {C : Array Value} (hC : C = (encMf c ++ encMf d).toArray) : MfsAt (W.alloc (.cells C t)) (.slice (some ⟨b, 0, none⟩) 2 2) [c, d] [ma, mb] := by
  subst hC
  refine ⟨RowsAt.fresh (l := [c, d]) (c := encMf c ++ encMf d) rfl (by simp [maxLen]) encMf_len hb (by simp), rfl, ?_⟩
  intro i hi hi'
  match i, hi with
  | 0, _ => exact h1.grew ((Grew.refl _).alloc _)
  | 1, _ => exact h2.grew ((Grew.refl _).alloc _)
set_option maxHeartbeats 32000000 in
theorem ad_p1 (w0 W : World) (x y : Nat) (c d : MfC) (ma mb : Gr.Mf) (Q : Exit → Act → World → Prop) (a0 : Act)
    (h0 : Pre28 w0 x y c d a0 W) (hm : MfIs w0 c ma) (hm2 : MfIs w0 d mb)  (hP : Pow w0)
    (hret : ∀ a' w', Ret28 w0 a' w' → Q .ret a' w')
    (hnext : SmallA ma → SmallA mb → ∀ a' w', Grew W w' → Pre28 w0 x y c d a' w' → Code.wp Tryz.prog (tail28 5) Q a' w') :
    Code.wp Tryz.prog (tail28 1) Q a0 W := by
  obtain ⟨hfr, h2, h3, hg, hbx, hby⟩ := h0
  obtain ⟨u, hu⟩ : ∃ u : Nat → Value, u = fun i => a0.tmps.getD i undef := ⟨_, rfl⟩
  rw [← hu] at hfr
  have u2 : u 2 = _ := (congrFun hu 2).trans h2
  have u3 : u 3 = _ := (congrFun hu 3).trans h3
  clear hu h2 h3
  subst hfr
  conv => arg 2; whnf
  unfold frame28
  rw [u2, u3]
  clear u2 u3
  have HG := Lib.hid hg
  have HBX := Lib.hid hbx
  have HBY := Lib.hid hby
  have HM := Lib.hid hm
  have HM2 := Lib.hid hm2
  have HRET := Lib.hid hret
  have HNX := Lib.hid hnext
  clear hg hbx hby hm hm2 hret hnext
  obtain ⟨ep, pl, ao, no, co, ag, ng, cg, ae, ne, ce, ax, nx, cx, ap, np, cp⟩ := c
  obtain ⟨ep2, pl2, ao2, no2, co2, ag2, ng2, cg2, ae2, ne2, ce2, ax2, nx2, cx2, ap2, np2, cp2⟩ := d
  have x0 := cell_of (o := 0) (W := W) (grew_heap (HG.out) HBX.out)
  have x1 := cell_of (o := 1) (W := W) (grew_heap (HG.out) HBX.out)
  have x2 := cell_of (o := 2) (W := W) (grew_heap (HG.out) HBX.out)
  have x3 := cell_of (o := 3) (W := W) (grew_heap (HG.out) HBX.out)
  have x4 := cell_of (o := 4) (W := W) (grew_heap (HG.out) HBX.out)
  have x5 := cell_of (o := 5) (W := W) (grew_heap (HG.out) HBX.out)
  have x6 := cell_of (o := 6) (W := W) (grew_heap (HG.out) HBX.out)
  have y0 := cell_of (o := 0) (W := W) (grew_heap (HG.out) HBY.out)
  have y1 := cell_of (o := 1) (W := W) (grew_heap (HG.out) HBY.out)
  have y2 := cell_of (o := 2) (W := W) (grew_heap (HG.out) HBY.out)
  have y3 := cell_of (o := 3) (W := W) (grew_heap (HG.out) HBY.out)
  have y4 := cell_of (o := 4) (W := W) (grew_heap (HG.out) HBY.out)
  have y5 := cell_of (o := 5) (W := W) (grew_heap (HG.out) HBY.out)
  have y6 := cell_of (o := 6) (W := W) (grew_heap (HG.out) HBY.out)
  simp [encMf] at x0 y0 x1 y1 x2 y2 x3 y3 x4 y4 x5 y5 x6 y6
  have px := Pre.mk (W := W) (heap_lt (grew_heap (HG.out) HBX.out))
  have py := Pre.mk (W := W) (heap_lt (grew_heap (HG.out) HBY.out))
  have HPW := Lib.hid hP
  clear hP
  have HGR := Lib.hid fun W2 v (h : MfsAt W2 v [⟨ep, pl, ao, no, co, ag, ng, cg, ae, ne, ce, ax, nx, cx, ap, np, cp⟩, ⟨ep2, pl2, ao2, no2, co2, ag2, ng2, cg2, ae2, ne2, ce2, ax2, nx2, cx2, ap2, np2, cp2⟩] [ma, mb]) => great28_any v _ _ W2 h
  go_wp2_with (first
    | (go_at_call 8; refine (awake28_any _ (HPW.out.grew (HG.out.trans (by repeat (first | with_reducible exact Grew.refl _ | apply Grew.more | apply Grew.alloc | apply Grew.drew | apply Grew.drewN))))).mono ?_; rintro e w1 ⟨rfl, Ra, na, rfl⟩))
  refine (HGR.out _ _ (mfs_two _ _ _ _ _ _ _ (by simp [go_sem]) (HM.out.grew (HG.out.trans (by repeat (first | with_reducible exact Grew.refl _ | apply Grew.more | apply Grew.alloc | apply Grew.drew | apply Grew.drewN)))) (HM2.out.grew (HG.out.trans (by repeat (first | with_reducible exact Grew.refl _ | apply Grew.more | apply Grew.alloc | apply Grew.drew | apply Grew.drewN)))) rfl)).mono ?_
  rintro e w1 ⟨r, rfl, hr, Rb, nb, rfl⟩
  have HR := Lib.hid hr
  clear hr
  cases r
  · have HS := Lib.hid (HR.out rfl)
    go_upto_if 32 with fail
    iterate 4 go_step
    refine HNX.out (HS.out 0 (by simp)) (HS.out 1 (by simp)) _ _ (by repeat (first | with_reducible exact Grew.refl _ | apply Grew.more | apply Grew.alloc | apply Grew.drew | apply Grew.drewN)) ?_
    exact ⟨rfl, rfl, rfl, HG.out.trans (by repeat (first | with_reducible exact Grew.refl _ | apply Grew.more | apply Grew.alloc | apply Grew.drew | apply Grew.drewN)), HBX.out, HBY.out⟩
  · go_wp2
    exact HRET.out _ _ ⟨rfl, rfl, HG.out.trans (by repeat (first | with_reducible exact Grew.refl _ | apply Grew.more | apply Grew.alloc | apply Grew.drew | apply Grew.drewN))⟩
end Go.Proofs.YthlmmfljeblflaaGreatDoor
