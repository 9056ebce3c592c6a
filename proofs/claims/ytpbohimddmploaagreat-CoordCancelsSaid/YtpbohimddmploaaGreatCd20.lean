import Derived.Test.YtpbohimddmploaaGreatCd10
import Derived.Test.YtpbohimddmploaaGreatCd18
set_option linter.unusedSimpArgs false
set_option linter.unusedVariables false
set_option maxRecDepth 100000
set_option maxHeartbeats 64000000
namespace Go.Proofs.YtpbohimddmploaaGreat
open Go.RowKit Ga

def badT (par t : Int) : Bool := decide (t < 0) || decide (par ≤ t)
theorem route1_pred (par : Int) (B : Nat) (w : World) (hB : Pre B w) (hc : w.cell? ⟨B, 4, none⟩ = some (.int .i64 par)) : PredI 134 #[.pointer (some ⟨B, 0, none⟩)] (badT par) w := by
  intro W x g
  obtain ⟨R, N, rfl⟩ := g
  show Calls Tryz.prog 134 #[.int .i64 x, .pointer (some ⟨B, 0, none⟩)] _ _
  by_cases h0 : x < 0
  · have hb : badT par x = true := by unfold badT; rw [decide_eq_true h0]; rfl
    rw [hb]
    clear hb
    go_enter Tryz.func134, Tryz.ntmps134
    go_wp2
    go_ret
    refine ⟨rfl, ?_⟩
    repeat (first | with_reducible exact Grew.refl _ | apply Grew.more | apply Grew.alloc | apply Grew.drew | apply Grew.drewN)
  · have h0' : decide (x < 0) = false := decide_eq_false h0
    have hb : badT par x = decide (par ≤ x) := by unfold badT; rw [h0']; rfl
    rw [hb]
    clear hb
    go_enter Tryz.func134, Tryz.ntmps134
    go_wp2
    go_ret
    exact ⟨rfl, by repeat (first | with_reducible exact Grew.refl _ | apply Grew.more | apply Grew.alloc | apply Grew.drew | apply Grew.drewN)⟩
theorem route_rows (w : World) (t : TypeId) (id kind par r0 r1 r2 r3 r4 r5 r6 r7 : Int) (vf vp : Value) : IntsAt (w.alloc (.cells #[.int .i64 id, .int .i64 kind, vf, vp, .int .i64 par, .int .i64 r0, .int .i64 r1, .int .i64 r2, .int .i64 r3, .int .i64 r4, .int .i64 r5, .int .i64 r6, .int .i64 r7] t)) (.slice (some ⟨w.heap.size, 5, none⟩) 8 8) [r0, r1, r2, r3, r4, r5, r6, r7] := by
  refine ⟨_, 8, rfl, (by unfold maxLen; simp), fun _ => ⟨_, _, rfl, fun i x hi j u hu => ?_⟩⟩
  rw [World.cell?_alloc_new]
  match j, hu with
  | 0, hu =>
    simp at hu
    subst hu
    match i, hi with
    | 0, hi => simp at hi; subst hi; rfl
    | 1, hi => simp at hi; subst hi; rfl
    | 2, hi => simp at hi; subst hi; rfl
    | 3, hi => simp at hi; subst hi; rfl
    | 4, hi => simp at hi; subst hi; rfl
    | 5, hi => simp at hi; subst hi; rfl
    | 6, hi => simp at hi; subst hi; rfl
    | 7, hi => simp at hi; subst hi; rfl
    | i + 8, hi => simp at hi
  | j + 1, hu => simp at hu
def routeB (n : Gr.Nd) : Bool := decide (1 ≤ n.par) && (decide (n.par ≤ 3) && !n.route.any (badT n.par))
theorem enters134 : ∀ args w, (callFunc 134 args).run Tryz.prog w = .ok (.enter 134 args) w := enters_of Tryz.func134 (by kernel_rfl) rfl
theorem route_any (c : NdC) (n : Gr.Nd) (w : World) (hn : NodeIs w c n) : Calls Tryz.prog 81 #[.agg #[.int .i64 c.id, .int .i64 c.kind, .slice c.af c.nf c.cf, .slice c.ap c.np c.cp, .int .i64 c.par, .int .i64 c.r0, .int .i64 c.r1, .int .i64 c.r2, .int .i64 c.r3, .int .i64 c.r4, .int .i64 c.r5, .int .i64 c.r6, .int .i64 c.r7]] w (Gives (.bool (routeB n)) w) := by
  obtain ⟨id, kind, af, cf, ap, cp, par, r0, r1, r2, r3, r4, r5, r6, r7, rfl⟩ := hn.lit
  have hpar := hn.par
  have hrt := hn.route
  simp only at hpar hrt
  have hb : routeB n = (decide (1 ≤ par) && (decide (par ≤ 3) && !([r0, r1, r2, r3, r4, r5, r6, r7] : List Int).any (badT par))) := by unfold routeB; rw [hpar, hrt]
  rw [hb]
  clear hb hpar hrt hn
  show Calls Tryz.prog 81 #[.agg #[.int .i64 id, .int .i64 kind, .slice af n.frm.length cf, .slice ap n.prog.length cp, .int .i64 par, .int .i64 r0, .int .i64 r1, .int .i64 r2, .int .i64 r3, .int .i64 r4, .int .i64 r5, .int .i64 r6, .int .i64 r7]] w _
  by_cases h1 : 1 ≤ par
  · have h1' : decide (1 ≤ par) = true := decide_eq_true h1
    by_cases h3 : par ≤ 3
    · have h3' : decide (par ≤ 3) = true := decide_eq_true h3
      rw [h1', h3', Bool.true_and, Bool.true_and]
      have hI := fun (w1 : World) (hc : w1.cell? ⟨w.heap.size, 4, none⟩ = some (.int .i64 par)) (hv : IntsAt w1 (.slice (some ⟨w.heap.size, 5, none⟩) 8 8) [r0, r1, r2, r3, r4, r5, r6, r7]) => containsFn_any _ _ 134 #[.pointer (some ⟨w.heap.size, 0, none⟩)] (badT par) w1 hv enters134 (route1_pred par w.heap.size w1 (Pre.ofCell hc) hc)
      have HI := Lib.hid hI
      have HR := Lib.hid (fun t vf vp => route_rows w t id kind par r0 r1 r2 r3 r4 r5 r6 r7 vf vp)
      clear hI
      generalize ([r0, r1, r2, r3, r4, r5, r6, r7] : List Int).any (badT par) = q at *
      clear h1' h3'
      go_enter Tryz.func81, Tryz.ntmps81
      go_wp2_with (go_at_call 82; go_loud (refine (HI.out _ (by simp [go_sem]) (HR.out _ _ _)).mono ?_; rintro e w1 ⟨rfl, R3, n3, rfl⟩))
      go_ret
      refine ⟨rfl, ?_⟩
      repeat (first | with_reducible exact Grew.refl _ | apply Grew.more | apply Grew.alloc | apply Grew.drew | apply Grew.drewN)
    · have h3' : decide (par ≤ 3) = false := decide_eq_false h3
      rw [h1', h3', Bool.true_and, Bool.false_and]
      clear h1' h3'
      go_enter Tryz.func81, Tryz.ntmps81
      go_wp2
      go_ret
      refine ⟨rfl, ?_⟩
      repeat (first | with_reducible exact Grew.refl _ | apply Grew.more | apply Grew.alloc | apply Grew.drew | apply Grew.drewN)
  · have h1' : decide (1 ≤ par) = false := decide_eq_false h1
    rw [h1', Bool.false_and]
    clear h1'
    go_enter Tryz.func81, Tryz.ntmps81
    go_wp2
    go_ret
    refine ⟨rfl, ?_⟩
    repeat (first | with_reducible exact Grew.refl _ | apply Grew.more | apply Grew.alloc | apply Grew.drew | apply Grew.drewN)

def kindB (n : Gr.Nd) : Bool :=
  if n.kind = 0 then n.id == 0 && (decide (n.frm.length = 0) && decide (n.prog.length = 0))
  else if n.kind = 1 then n.id != 0 && (decide (n.frm.length = 1) && Vm.safe n.prog)
  else if n.kind = 2 then n.id != 0 && (decide (1 ≤ n.frm.length) && (decide (n.frm.length ≤ 3) && (decide n.frm.Nodup && decide (n.prog.length = 0))))
  else false
theorem kind_any (c : NdC) (n : Gr.Nd) (w : World) (hn : NodeIs w c n) (hf : n.frm.length ≤ 1000) : Calls Tryz.prog 80 #[.agg #[.int .i64 c.id, .int .i64 c.kind, .slice c.af c.nf c.cf, .slice c.ap c.np c.cp, .int .i64 c.par, .int .i64 c.r0, .int .i64 c.r1, .int .i64 c.r2, .int .i64 c.r3, .int .i64 c.r4, .int .i64 c.r5, .int .i64 c.r6, .int .i64 c.r7]] w (Gives (.bool (kindB n)) w) := by
  have HS := Lib.hid fun W (g : Grew w W) => safe_any c.vp n.prog W (hn.p.grew g)
  have HU := Lib.hid fun W (g : Grew w W) => unlike_any c.vf n.frm W (hn.f.grew g) hf
  obtain ⟨id, kind, af, cf, ap, cp, par, r0, r1, r2, r3, r4, r5, r6, r7, rfl⟩ := hn.lit
  have hid := hn.id
  have hk := hn.kind
  simp only at hid hk HS HU
  have hb : kindB n = if kind = 0 then id == 0 && (decide (n.frm.length = 0) && decide (n.prog.length = 0)) else if kind = 1 then id != 0 && (decide (n.frm.length = 1) && Vm.safe n.prog) else if kind = 2 then id != 0 && (decide (1 ≤ n.frm.length) && (decide (n.frm.length ≤ 3) && (decide n.frm.Nodup && decide (n.prog.length = 0)))) else false := by unfold kindB; rw [hid, hk]
  rw [hb]
  clear hb hid hk hn
  show Calls Tryz.prog 80 #[.agg #[.int .i64 id, .int .i64 kind, .slice af n.frm.length cf, .slice ap n.prog.length cp, .int .i64 par, .int .i64 r0, .int .i64 r1, .int .i64 r2, .int .i64 r3, .int .i64 r4, .int .i64 r5, .int .i64 r6, .int .i64 r7]] w _
  generalize Vm.safe n.prog = sf at *
  generalize decide n.frm.Nodup = nd at *
  generalize n.frm.length = fl at *
  generalize n.prog.length = pl at *
  by_cases k0 : kind = 0
  · subst k0
    rw [if_pos rfl]
    by_cases i0 : id = 0
    · subst i0
      by_cases f0 : fl = 0
      · subst f0
        by_cases p0 : pl = 0
        · subst p0
          go_enter Tryz.func80, Tryz.ntmps80
          go_wp2
          go_ret
          refine ⟨rfl, ?_⟩
          repeat (first | with_reducible exact Grew.refl _ | apply Grew.more | apply Grew.alloc | apply Grew.drew | apply Grew.drewN)
        · have p0' : ((pl : Int) == 0) = false := by simpa using p0
          rw [decide_eq_false p0]
          clear p0
          go_enter Tryz.func80, Tryz.ntmps80
          go_wp2
          go_ret
          refine ⟨rfl, ?_⟩
          repeat (first | with_reducible exact Grew.refl _ | apply Grew.more | apply Grew.alloc | apply Grew.drew | apply Grew.drewN)
      · have f0' : ((fl : Int) == 0) = false := by simpa using f0
        rw [decide_eq_false f0]
        clear f0
        go_enter Tryz.func80, Tryz.ntmps80
        go_wp2
        go_ret
        refine ⟨rfl, ?_⟩
        repeat (first | with_reducible exact Grew.refl _ | apply Grew.more | apply Grew.alloc | apply Grew.drew | apply Grew.drewN)
    · have i0' : (id == 0) = false := by simpa using i0
      rw [i0']
      clear i0
      go_enter Tryz.func80, Tryz.ntmps80
      go_wp2
      go_ret
      refine ⟨rfl, ?_⟩
      repeat (first | with_reducible exact Grew.refl _ | apply Grew.more | apply Grew.alloc | apply Grew.drew | apply Grew.drewN)
  · rw [if_neg k0]
    have k0' : (kind == 0) = false := by simpa using k0
    clear k0
    by_cases k1 : kind = 1
    · subst k1
      rw [if_pos rfl]
      clear k0'
      by_cases i0 : id = 0
      · subst i0
        rw [show ((0 : Int) != 0) = false from rfl, Bool.false_and]
        go_enter Tryz.func80, Tryz.ntmps80
        go_wp2
        go_ret
        refine ⟨rfl, ?_⟩
        repeat (first | with_reducible exact Grew.refl _ | apply Grew.more | apply Grew.alloc | apply Grew.drew | apply Grew.drewN)
      · have i0' : (id != 0) = true := by simpa using i0
        rw [i0', Bool.true_and]
        clear i0
        by_cases f1 : fl = 1
        · subst f1
          rw [decide_eq_true rfl, Bool.true_and]
          go_enter Tryz.func80, Tryz.ntmps80
          go_wp2_with (go_at_call 133; refine (HS.out _ (by repeat (first | with_reducible exact Grew.refl _ | apply Grew.more | apply Grew.alloc | apply Grew.drew | apply Grew.drewN))).mono ?_; rintro e w1 ⟨rfl, R3, n3, rfl⟩)
          go_ret
          refine ⟨rfl, ?_⟩
          repeat (first | with_reducible exact Grew.refl _ | apply Grew.more | apply Grew.alloc | apply Grew.drew | apply Grew.drewN)
        · have f1' : ((fl : Int) == 1) = false := by simp; omega
          rw [decide_eq_false f1, Bool.false_and]
          clear f1
          go_enter Tryz.func80, Tryz.ntmps80
          go_wp2
          go_ret
          refine ⟨rfl, ?_⟩
          repeat (first | with_reducible exact Grew.refl _ | apply Grew.more | apply Grew.alloc | apply Grew.drew | apply Grew.drewN)
    · rw [if_neg k1]
      have k1' : (kind == 1) = false := by simpa using k1
      clear k1
      by_cases k2 : kind = 2
      · subst k2
        rw [if_pos rfl]
        clear k0' k1'
        by_cases i0 : id = 0
        · subst i0
          rw [show ((0 : Int) != 0) = false from rfl, Bool.false_and]
          go_enter Tryz.func80, Tryz.ntmps80
          go_wp2
          go_ret
          refine ⟨rfl, ?_⟩
          repeat (first | with_reducible exact Grew.refl _ | apply Grew.more | apply Grew.alloc | apply Grew.drew | apply Grew.drewN)
        · have i0' : (id != 0) = true := by simpa using i0
          rw [i0', Bool.true_and]
          clear i0
          by_cases f1 : 1 ≤ fl
          · have f1' : (1 : Int) ≤ (fl : Int) := by omega
            rw [decide_eq_true f1, Bool.true_and]
            by_cases f3 : fl ≤ 3
            · have f3' : (fl : Int) ≤ 3 := by omega
              rw [decide_eq_true f3, Bool.true_and]
              cases nd with
              | true =>
                rw [Bool.true_and]
                by_cases p0 : pl = 0
                · subst p0
                  go_enter Tryz.func80, Tryz.ntmps80
                  go_wp2_with (go_at_call 32; refine (HU.out _ (by repeat (first | with_reducible exact Grew.refl _ | apply Grew.more | apply Grew.alloc | apply Grew.drew | apply Grew.drewN))).mono ?_; rintro e w1 ⟨rfl, R3, n3, rfl⟩)
                  go_ret
                  refine ⟨rfl, ?_⟩
                  repeat (first | with_reducible exact Grew.refl _ | apply Grew.more | apply Grew.alloc | apply Grew.drew | apply Grew.drewN)
                · have p0' : ((pl : Int) == 0) = false := by simpa using p0
                  rw [decide_eq_false p0]
                  clear p0
                  go_enter Tryz.func80, Tryz.ntmps80
                  go_wp2_with (go_at_call 32; refine (HU.out _ (by repeat (first | with_reducible exact Grew.refl _ | apply Grew.more | apply Grew.alloc | apply Grew.drew | apply Grew.drewN))).mono ?_; rintro e w1 ⟨rfl, R3, n3, rfl⟩)
                  go_ret
                  refine ⟨rfl, ?_⟩
                  repeat (first | with_reducible exact Grew.refl _ | apply Grew.more | apply Grew.alloc | apply Grew.drew | apply Grew.drewN)
              | false =>
                rw [Bool.false_and]
                go_enter Tryz.func80, Tryz.ntmps80
                go_wp2_with (go_at_call 32; refine (HU.out _ (by repeat (first | with_reducible exact Grew.refl _ | apply Grew.more | apply Grew.alloc | apply Grew.drew | apply Grew.drewN))).mono ?_; rintro e w1 ⟨rfl, R3, n3, rfl⟩)
                go_ret
                refine ⟨rfl, ?_⟩
                repeat (first | with_reducible exact Grew.refl _ | apply Grew.more | apply Grew.alloc | apply Grew.drew | apply Grew.drewN)
            · have f3' : ¬ (fl : Int) ≤ 3 := by omega
              rw [decide_eq_false f3, Bool.false_and]
              clear f3
              go_enter Tryz.func80, Tryz.ntmps80
              go_wp2
              go_ret
              refine ⟨rfl, ?_⟩
              repeat (first | with_reducible exact Grew.refl _ | apply Grew.more | apply Grew.alloc | apply Grew.drew | apply Grew.drewN)
          · have f1' : ¬ (1 : Int) ≤ (fl : Int) := by omega
            rw [decide_eq_false f1, Bool.false_and]
            clear f1
            go_enter Tryz.func80, Tryz.ntmps80
            go_wp2
            go_ret
            refine ⟨rfl, ?_⟩
            repeat (first | with_reducible exact Grew.refl _ | apply Grew.more | apply Grew.alloc | apply Grew.drew | apply Grew.drewN)
      · rw [if_neg k2]
        have k2' : (kind == 2) = false := by simpa using k2
        clear k2
        go_enter Tryz.func80, Tryz.ntmps80
        go_wp2
        go_ret
        refine ⟨rfl, ?_⟩
        repeat (first | with_reducible exact Grew.refl _ | apply Grew.more | apply Grew.alloc | apply Grew.drew | apply Grew.drewN)

def aboveB (l : List Gr.Nd) (x : Int) : Bool := match Gr.nodeOf l x with
  | some m => m.kind == 2
  | none => true
theorem enters78 : ∀ args w, (callFunc 78 args).run Tryz.prog w = .ok (.enter 78 args) w := enters_of Tryz.func78 (by kernel_rfl) rfl
theorem node1_pred (v : Value) (l : List Gr.Nd) (B : Nat) (w : World) (hv : NodesAt w v l) (hs : Small l) (hB : Pre B w) (hc : w.cell? ⟨B, 0, none⟩ = some v) : PredI 78 #[.pointer (some ⟨B, 0, none⟩)] (aboveB l) w := by
  intro W x g
  obtain ⟨R, N, rfl⟩ := g
  have HF := Lib.hid fun W (g : Grew w W) => find_any v l x W (hv.grew g) hs
  obtain ⟨a, cap, rfl, hm, -⟩ := hv.openC
  clear hv hs
  show Calls Tryz.prog 78 #[.int .i64 x, .pointer (some ⟨B, 0, none⟩)] _ (Gives (.bool (aboveB l x)) _)
  cases hn : Gr.nodeOf l x with
  | none =>
    have hb : aboveB l x = true := by unfold aboveB; rw [hn]
    rw [hb]
    rw [hn] at HF
    clear hn hb
    go_enter Tryz.func78, Tryz.ntmps78
    go_wp2_with (go_at_call 79; refine (HF.out _ (by repeat (first | with_reducible exact Grew.refl _ | apply Grew.more | apply Grew.alloc | apply Grew.drew | apply Grew.drewN))).mono ?_; rintro e w1 ⟨rfl, R3, n3, rfl⟩)
    go_ret
    refine ⟨rfl, ?_⟩
    repeat (first | with_reducible exact Grew.refl _ | apply Grew.more | apply Grew.alloc | apply Grew.drew | apply Grew.drewN)
  | some m =>
    have hb : aboveB l x = (m.kind == 2) := by unfold aboveB; rw [hn]
    rw [hb]
    rw [hn] at HF
    clear hn hb
    go_enter Tryz.func78, Tryz.ntmps78
    go_wp2_with (go_at_call 79; refine (HF.out _ (by repeat (first | with_reducible exact Grew.refl _ | apply Grew.more | apply Grew.alloc | apply Grew.drew | apply Grew.drewN))).mono ?_; rintro e w1 ⟨c9, rfl, hn9, -, R3, n3, rfl⟩; obtain ⟨cid9, kind9, af9, cf9, ap9, cp9, par9, s0, s1, s2, s3, s4, s5, s6, s7, rfl⟩ := hn9.lit; (have HN9 := Lib.hid hn9); clear hn9)
    go_ret
    refine ⟨by rw [HN9.out.kind]; rfl, ?_⟩
    repeat (first | with_reducible exact Grew.refl _ | apply Grew.more | apply Grew.alloc | apply Grew.drew | apply Grew.drewN)

def nodeB (l : List Gr.Nd) (n : Gr.Nd) : Bool := decide (0 ≤ n.id) && (decide (n.id < 8) && (kindB n && (routeB n && !n.frm.any (aboveB l))))
theorem node_any (c : NdC) (n : Gr.Nd) (v : Value) (l : List Gr.Nd) (w : World) (hn : NodeIs w c n) (hv : NodesAt w v l) (hs : Small l) (hf : n.frm.length ≤ 1000) : Calls Tryz.prog 31 #[.agg #[.int .i64 c.id, .int .i64 c.kind, .slice c.af c.nf c.cf, .slice c.ap c.np c.cp, .int .i64 c.par, .int .i64 c.r0, .int .i64 c.r1, .int .i64 c.r2, .int .i64 c.r3, .int .i64 c.r4, .int .i64 c.r5, .int .i64 c.r6, .int .i64 c.r7], v] w (Gives (.bool (nodeB l n)) w) := by
  have HK := Lib.hid fun W (g : Grew w W) => kind_any c n W (hn.grew g) hf
  have HR := Lib.hid fun W (g : Grew w W) => route_any c n W (hn.grew g)
  have HC := Lib.hid fun W (g : Grew w W) (B : Nat) (hc : W.cell? ⟨B, 0, none⟩ = some v) => containsFn_any c.vf n.frm 78 #[.pointer (some ⟨B, 0, none⟩)] (aboveB l) W (hn.f.grew g) enters78 (node1_pred v l B W (hv.grew g) hs (Pre.ofCell hc) hc)
  obtain ⟨id, kind, af, cf, ap, cp, par, r0, r1, r2, r3, r4, r5, r6, r7, rfl⟩ := hn.lit
  obtain ⟨a, cap, rfl, hm, -⟩ := hv.openC
  have hid := hn.id
  have hb : nodeB l n = (decide (0 ≤ id) && (decide (id < 8) && (kindB n && (routeB n && !n.frm.any (aboveB l))))) := by unfold nodeB; rw [hid]
  rw [hb]
  clear hb hid hn hv hs
  simp only at HK HR HC
  show Calls Tryz.prog 31 #[.agg #[.int .i64 id, .int .i64 kind, .slice af n.frm.length cf, .slice ap n.prog.length cp, .int .i64 par, .int .i64 r0, .int .i64 r1, .int .i64 r2, .int .i64 r3, .int .i64 r4, .int .i64 r5, .int .i64 r6, .int .i64 r7], .slice a l.length cap] w _
  generalize kindB n = kb at *
  generalize routeB n = rb at *
  generalize n.frm.any (aboveB l) = ab at *
  by_cases h0 : 0 ≤ id
  · rw [decide_eq_true h0, Bool.true_and]
    by_cases h8 : id < 8
    · rw [decide_eq_true h8, Bool.true_and]
      cases kb with
      | true =>
        rw [Bool.true_and]
        cases rb with
        | true =>
          rw [Bool.true_and]
          go_enter Tryz.func31, Tryz.ntmps31
          go_wp2_with (first
        | (go_at_call 80; refine (HK.out _ (by repeat (first | with_reducible exact Grew.refl _ | apply Grew.more | apply Grew.alloc | apply Grew.drew | apply Grew.drewN))).mono ?_; rintro e w1 ⟨rfl, R3, n3, rfl⟩)
        | (go_at_call 81; refine (HR.out _ (by repeat (first | with_reducible exact Grew.refl _ | apply Grew.more | apply Grew.alloc | apply Grew.drew | apply Grew.drewN))).mono ?_; rintro e w1 ⟨rfl, R4, n4, rfl⟩)
        | (go_at_call 82; refine (HC.out _ (by repeat (first | with_reducible exact Grew.refl _ | apply Grew.more | apply Grew.alloc | apply Grew.drew | apply Grew.drewN)) (w.heap.size + 1) (by simp [go_sem])).mono ?_; rintro e w1 ⟨rfl, R5, n5, rfl⟩))
          go_ret
          refine ⟨rfl, ?_⟩
          repeat (first | with_reducible exact Grew.refl _ | apply Grew.more | apply Grew.alloc | apply Grew.drew | apply Grew.drewN)
        | false =>
          rw [Bool.false_and]
          go_enter Tryz.func31, Tryz.ntmps31
          go_wp2_with (first
        | (go_at_call 80; refine (HK.out _ (by repeat (first | with_reducible exact Grew.refl _ | apply Grew.more | apply Grew.alloc | apply Grew.drew | apply Grew.drewN))).mono ?_; rintro e w1 ⟨rfl, R3, n3, rfl⟩)
        | (go_at_call 81; refine (HR.out _ (by repeat (first | with_reducible exact Grew.refl _ | apply Grew.more | apply Grew.alloc | apply Grew.drew | apply Grew.drewN))).mono ?_; rintro e w1 ⟨rfl, R4, n4, rfl⟩)
        | (go_at_call 82; refine (HC.out _ (by repeat (first | with_reducible exact Grew.refl _ | apply Grew.more | apply Grew.alloc | apply Grew.drew | apply Grew.drewN)) (w.heap.size + 1) (by simp [go_sem])).mono ?_; rintro e w1 ⟨rfl, R5, n5, rfl⟩))
          go_ret
          refine ⟨rfl, ?_⟩
          repeat (first | with_reducible exact Grew.refl _ | apply Grew.more | apply Grew.alloc | apply Grew.drew | apply Grew.drewN)
      | false =>
        rw [Bool.false_and]
        go_enter Tryz.func31, Tryz.ntmps31
        go_wp2_with (first
        | (go_at_call 80; refine (HK.out _ (by repeat (first | with_reducible exact Grew.refl _ | apply Grew.more | apply Grew.alloc | apply Grew.drew | apply Grew.drewN))).mono ?_; rintro e w1 ⟨rfl, R3, n3, rfl⟩)
        | (go_at_call 81; refine (HR.out _ (by repeat (first | with_reducible exact Grew.refl _ | apply Grew.more | apply Grew.alloc | apply Grew.drew | apply Grew.drewN))).mono ?_; rintro e w1 ⟨rfl, R4, n4, rfl⟩)
        | (go_at_call 82; refine (HC.out _ (by repeat (first | with_reducible exact Grew.refl _ | apply Grew.more | apply Grew.alloc | apply Grew.drew | apply Grew.drewN)) (w.heap.size + 1) (by simp [go_sem])).mono ?_; rintro e w1 ⟨rfl, R5, n5, rfl⟩))
        go_ret
        refine ⟨rfl, ?_⟩
        repeat (first | with_reducible exact Grew.refl _ | apply Grew.more | apply Grew.alloc | apply Grew.drew | apply Grew.drewN)
    · rw [decide_eq_false h8, Bool.false_and]
      go_enter Tryz.func31, Tryz.ntmps31
      go_wp2
      go_ret
      refine ⟨rfl, ?_⟩
      repeat (first | with_reducible exact Grew.refl _ | apply Grew.more | apply Grew.alloc | apply Grew.drew | apply Grew.drewN)
  · rw [decide_eq_false h0, Bool.false_and]
    go_enter Tryz.func31, Tryz.ntmps31
    go_wp2
    go_ret
    refine ⟨rfl, ?_⟩
    repeat (first | with_reducible exact Grew.refl _ | apply Grew.more | apply Grew.alloc | apply Grew.drew | apply Grew.drewN)
end Go.Proofs.YtpbohimddmploaaGreat
