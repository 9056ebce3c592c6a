import Derived.Test.YthlmmfljeblflaaGreatDoorMc16
/-! check: what operations take and leave; where an instruction leads on. -/
namespace Go
set_option linter.unusedSimpArgs false
set_option linter.unusedVariables false
open Go.Maps (Keyed)
/-- An entry of a map that is written out. -/
theorem wpList_insert_own {H : Type} {P : Program} {w0 w : World} {ops : Array Oper} {rest : List Oper} {o : Oper} {a : Act} {Q : Exit → Act → World → Prop}
    (hg : o.guard = none) (m x v : Operand) (t : TypeId) (hop : o.op = Op.insert t m x v)
    (k e : TypeId) (K : Keyed P k) (ht : P.underlying t = some (.map k e)) (R : Value → Option (DataW H × List MemPlace)) (b n : Nat) (D : DataW H) (hgr : Grew w0 w) (hb : w0.heap.size ≤ b)
    (hm : a.eval m = .map (some b)) (hown : w.ownsMap P k R b n D) (hn : n < maxLen) (key val : Value) (kl : Lit) (hx : a.eval x = key) (hv : a.eval v = val) (hkey : keyOf P k key = some kl)
    (d : DataW H) (ps : List MemPlace) (hval : R val = some (d, ps))
    (hK : ∀ w', w'.ownsMap P k R b (n + 1) (D.put kl d) → Grew w0 w' → wpList P ops Q rest (a.put o.dst undef) w') :
    wpList P ops Q (o :: rest) a w := by
  refine wpList_plain hg fun K' hK' => ?_
  obtain ⟨w', hrun, r1, r2⟩ := hown.update K ht hn hkey hval
  unfold Oper.wp
  simp [execOp, hop, hm, hx, hv, hrun, Result.andThen]
  exact hK' _ _ (hK w' r1 (hgr.grown r2 (fun k hk => by cases hk; exact hb)))
end Go
namespace Go.Proofs.YthlmmfljeblflaaGreatDoor
open Go.RowKit Ga
set_option maxRecDepth 100000

theorem law_int : Maps.Keyed Tryz.prog 3 := Maps.int_keyed Tryz.underlying3
theorem keyI (x : Int) (h : -9223372036854775808 ≤ x ∧ x ≤ 9223372036854775807) : keyOf Tryz.prog 3 (.int .i64 x) = some (.int .i64 x) := Maps.keyOf_int_mk Tryz.underlying3 (WalkArith.wf_i64 h)

set_option maxHeartbeats 4000000 in
theorem effects_any (w : World) : Calls Tryz.prog 177 #[] w fun e W' => ∃ bm, e = .returned (.map (some bm)) ∧ w.heap.size ≤ bm ∧ EffAt W' bm ∧ Grew w W' := by
  have hmm := @run_makeMap Tryz.prog
  have HOWN := Lib.hid (World.ownsMap_made (H := Unit) w Tryz.prog 3 effR)
  have HG := Lib.hid ((Grew.refl w).alloc (.map #[] 0))
  go_enter Tryz.func177, Tryz.ntmps177
  go_wp2_with (refine wpList_insert_own (w0 := w) rfl (.tmp 1) _ _ 240 rfl 3 261 law_int Tryz.underlying240 effR _ _ _ HG.out (Nat.le_refl _) rfl HOWN.out (by unfold maxLen; omega) _ _ _ rfl rfl (keyI _ (by decide)) _ [] rfl ?_; intro w2 hown2 hg2; replace HOWN := Lib.hid hown2; replace HG := Lib.hid hg2; clear hown2 hg2)
  go_ret
  exact ⟨_, rfl, Nat.le_refl _, HOWN.out, HG.out⟩

/-- What the look-up of an operation gives. -/
def takesI (op : Int) : Int := Vm.takes op
def leavesI (op : Int) : Int := Vm.leaves op
theorem effD_at (op : Int) (h0 : 0 ≤ op) (h1 : op ≤ 17) : effD.atKey (.int .i64 op) (effDat (0, 0)) = effDat (takesI op, leavesI op) := by
  have hc : op = 0 ∨ op = 1 ∨ op = 2 ∨ op = 3 ∨ op = 4 ∨ op = 5 ∨ op = 6 ∨ op = 7 ∨ op = 8 ∨ op = 9 ∨ op = 10 ∨ op = 11 ∨ op = 12 ∨ op = 13 ∨ op = 14 ∨ op = 15 ∨ op = 16 ∨ op = 17 := by omega
  rcases hc with rfl | rfl | rfl | rfl | rfl | rfl | rfl | rfl | rfl | rfl | rfl | rfl | rfl | rfl | rfl | rfl | rfl | rfl <;> rfl
theorem effV_inv {l : List Value} {d : DataW Unit} {ps : List MemPlace} {x : Int × Int} (h : effV l = some (d, ps)) (hd : d = effDat x) : l = [.int .i64 x.1, .int .i64 x.2] := by
  unfold effV at h
  split at h
  · cases h
    unfold effDat at hd
    simp at hd
    rw [hd.1, hd.2]
  · cases h
theorem effR_inv {v : Value} {d : DataW Unit} {ps : List MemPlace} {x : Int × Int} (h : effR v = some (d, ps)) (hd : d = effDat x) : v = .agg #[.int .i64 x.1, .int .i64 x.2] := by
  cases v with
  | agg c =>
    have := effV_inv (l := c.toList) h hd
    cases c
    simp at this
    rw [this]
  | _ => cases h
theorem zeroEff (w : World) : (zeroValue 261).run Tryz.prog w = .ok (.agg #[.int .i64 0, .int .i64 0]) w := by kernel_rfl
theorem eff_look {W : World} {bm : Nat} (h : EffAt W bm) (op : Int) (h0 : 0 ≤ op) (h1 : op ≤ 17) : (Instr.lookup 240 (.map (some bm)) (.int .i64 op) false).run Tryz.prog W = .ok (.agg #[.int .i64 (takesI op), .int .i64 (leavesI op)]) W := by
  obtain ⟨v, ps, h2, h3⟩ := World.ownsMap.lookup h law_int Tryz.underlying240 (zeroEff W) (zd := effDat (0, 0)) (zp := []) rfl (keyI op (by omega))
  rw [effD_at op h0 h1] at h3
  rw [h2, effR_inv (x := (takesI op, leavesI op)) h3 rfl]
end Go.Proofs.YthlmmfljeblflaaGreatDoor
