import Derived.Test.YtipgfjihdglocaaGreatCw9
import Derived.Test.YtipgfjihdglocaaGreatCw16
import Derived.Deep.RegionHeld3
set_option linter.unusedSimpArgs false
set_option linter.unusedVariables false
set_option maxRecDepth 100000
set_option maxHeartbeats 64000000
namespace Go.Proofs.YtipgfjihdglocaaGreat
open Go.RowKit Ga
theorem res_clean49{W:World}{tmps:Array Value}{q:Nat}{v0 v1 v2 v3 v4 v5 v6 v7 v8 v9 v10 v11 v12 v13 v14:Value}(ht:tmps[2]? = some (.pointer (some ⟨q,0,none⟩)))(h:W.heap[q]? = some (.cells #[v0,v1,v2,v3,v4,v5,v6,v7,v8,v9,v10,v11,v12,v13,v14] 69)):
  (results Tryz.f105 tmps).run Tryz.prog W = .ok (.agg #[v0,v1,v2,v3,v4,v5,v6,v7,v8,v9,v10,v11,v12,v13,v14]) W:=by
 have c0:=cell_of (o:=0) h;have c1:=cell_of (o:=1) h;have c2:=cell_of (o:=2) h;have c3:=cell_of (o:=3) h;have c4:=cell_of (o:=4) h;have c5:=cell_of (o:=5) h;have c6:=cell_of (o:=6) h;have c7:=cell_of (o:=7) h;have c8:=cell_of (o:=8) h;have c9:=cell_of (o:=9) h;have c10:=cell_of (o:=10) h;have c11:=cell_of (o:=11) h;have c12:=cell_of (o:=12) h;have c13:=cell_of (o:=13) h;have c14:=cell_of (o:=14) h;simp at c0 c1 c2 c3 c4 c5 c6 c7 c8 c9 c10 c11 c12 c13 c14;simp[results,Tryz.results105,go_sem,ht,c0,c1,c2,c3,c4,c5,c6,c7,c8,c9,c10,c11,c12,c13,c14]
def CleanGives(z:Gr.Stp)(w:World)(e:Ending)(w':World): Prop:=∃d:StC,e = .returned (.agg #[.int .i64 d.kind,.int .i64 d.c.id,.int .i64 d.c.kind,.slice d.c.af d.c.nf d.c.cf,.slice d.c.ap d.c.np d.c.cp,.int .i64 d.c.par,.int .i64 d.c.r0,.int .i64 d.c.r1,.int .i64 d.c.r2,.int .i64 d.c.r3,.int .i64 d.c.r4,.int .i64 d.c.r5,.int .i64 d.c.r6,.int .i64 d.c.r7,.bool d.reset])∧StepIs w' d z∧OwnsNd w.heap.size w' d.c z.nd∧Grew w w'
theorem clean_own{w W:World}{base:Nat}{c:StC}{s:Gr.Stp}(h:StepIs w c s)(h1:c.kind≠1)(h2:c.kind≠2)(h5:c.kind≠5): OwnsNd base W (cleanC c).c (Gr.cleanS s).nd:=by
 have hk:=h.kind;unfold cleanC Gr.cleanS;rw[hk,if_neg h1,if_neg h1,if_neg h2,if_neg h2];by_cases h3:c.kind=3
 ·rw[if_pos h3,if_pos h3];exact⟨OwnAt.nil _,OwnAt.nil _⟩
 rw[if_neg h3,if_neg h3];by_cases h4:c.kind=4
 ·rw[if_pos h4,if_pos h4];exact⟨OwnAt.nil _,OwnAt.nil _⟩
 rw[if_neg h4,if_neg h4,if_neg h5,if_neg h5];exact⟨OwnAt.nil _,OwnAt.nil _⟩
def NormOne(y:Gr.Nd)(w:World)(e:Ending)(w':World): Prop:=∃b cap c,e = .returned (.slice (some ⟨b,0,none⟩) 1 cap)∧Pre b w'∧NodeIs w' c y∧OwnsNd w.heap.size w' c y∧Grew w w'∧w'.cell? ⟨b,0,none⟩=some (.int .i64 c.id)∧w'.cell? ⟨b,1,none⟩=some (.int .i64 c.kind)∧w'.cell? ⟨b,2,none⟩=some (.slice c.af c.nf c.cf)∧w'.cell? ⟨b,3,none⟩=some (.slice c.ap c.np c.cp)∧w'.cell? ⟨b,4,none⟩=some (.int .i64 c.par)∧w'.cell? ⟨b,5,none⟩=some (.int .i64 c.r0)∧w'.cell? ⟨b,6,none⟩=some (.int .i64 c.r1)∧w'.cell? ⟨b,7,none⟩=some (.int .i64 c.r2)∧w'.cell? ⟨b,8,none⟩=some (.int .i64 c.r3)∧w'.cell? ⟨b,9,none⟩=some (.int .i64 c.r4)∧w'.cell? ⟨b,10,none⟩=some (.int .i64 c.r5)∧w'.cell? ⟨b,11,none⟩=some (.int .i64 c.r6)∧w'.cell? ⟨b,12,none⟩=some (.int .i64 c.r7)
theorem rel_one{α β:Type}{R:α→β→Prop}{xs:List α}{y:β}(h:Rel R xs [y]): ∃c,xs=[c]∧R c y:=by
 cases xs with
 | nil=>exact h.elim
 |cons c xs=>cases xs with
  | nil=>exact⟨c,rfl,h.1⟩
  | cons d xs=>exact h.2.elim
theorem norm_one(v:Value)(y:Gr.Nd)(w:World)(hv:NodesAt w v [y])(hs:y.frm.length≤1000∧y.prog.length≤1000): Calls Tryz.prog 55 #[v] w (NormOne y w):=by
 refine(norm_any v [y] w hv (fun n hn=>by rw[List.mem_singleton] at hn;subst hn;exact hs) (by simp)).mono ?_;rintro e w' ⟨v',lc,l',rfl,ho,hi,hp,-,g⟩;obtain rfl:=List.perm_singleton.1 hp;obtain⟨c,rfl,h1,h2⟩:=rel_one hi;rcases OwnAt.form ho with ⟨_,h⟩|⟨b,cap,rfl,-,-,-⟩
 ·cases h
 ·have h3:=OwnAt.rows ho encNd_len;obtain⟨a,cap',e,-,hx⟩:=h3;cases e;obtain⟨b',off,e,hc⟩:=hx (by simp);cases e;have hj:=fun j u=>hc 0 c rfl j u
  simp only[Nat.zero_mul,Nat.zero_add] at hj;have h0:=hj 0 _ rfl;exact⟨b,cap,c,rfl,Pre.mk (World.block_lt_of_cell? w' _ h0),h1,h2,g,h0,hj 1 _ rfl,hj 2 _ rfl,hj 3 _ rfl,hj 4 _ rfl,hj 5 _ rfl,hj 6 _ rfl,hj 7 _ rfl,hj 8 _ rfl,hj 9 _ rfl,hj 10 _ rfl,hj 11 _ rfl,hj 12 _ rfl⟩
theorem clean_made1{w W:World}{id kd par r0 r1 r2 r3 r4 r5 r6 r7:Int}{af ap a1:Option Addr}{nf cf np cp c1:Nat}{reset:Bool}{s:Gr.Stp}(hn:StepIs w ⟨1,⟨id,kd,af,nf,cf,ap,np,cp,par,r0,r1,r2,r3,r4,r5,r6,r7⟩,reset⟩ s)(ho:OwnAt w.heap.size 187 2 encI W (.slice a1 s.nd.prog.length c1) s.nd.prog)(g:Grew w W):
  CleanGives (Gr.cleanS s) w (.returned (.agg #[.int .i64 1,.int .i64 id,.int .i64 0,.slice none 0 0,.slice a1 s.nd.prog.length c1,.int .i64 0,.int .i64 0,.int .i64 0,.int .i64 0,.int .i64 0,.int .i64 0,.int .i64 0,.int .i64 0,.int .i64 0,.bool reset])) W:=by
 refine⟨⟨1,{ zeroNd id with ap:=a1,np:=s.nd.prog.length,cp:=c1 },reset⟩,rfl,?_,?_,g⟩
 ·unfold Gr.cleanS;rw[if_pos hn.kind];exact⟨rfl,⟨hn.nd.id,rfl,RowsAt.nil,ho.rows encI_len,rfl,rfl,Nat.zero_le _⟩,hn.reset⟩
 ·unfold Gr.cleanS;rw[if_pos hn.kind];exact⟨OwnAt.nil _,ho⟩
theorem clean_made5{w W:World}{id kd par r0 r1 r2 r3 r4 r5 r6 r7:Int}{af ap a1:Option Addr}{nf cf np cp c1:Nat}{reset:Bool}{s:Gr.Stp}(hn:StepIs w ⟨5,⟨id,kd,af,nf,cf,ap,np,cp,par,r0,r1,r2,r3,r4,r5,r6,r7⟩,reset⟩ s)(ho:OwnAt w.heap.size 3 1 encN W (.slice a1 s.nd.frm.length c1) s.nd.frm)(g:Grew w W):
  CleanGives (Gr.cleanS s) w (.returned (.agg #[.int .i64 5,.int .i64 id,.int .i64 0,.slice a1 s.nd.frm.length c1,.slice none 0 0,.int .i64 0,.int .i64 0,.int .i64 0,.int .i64 0,.int .i64 0,.int .i64 0,.int .i64 0,.int .i64 0,.int .i64 0,.bool false])) W:=by
 have h5:s.kind=5:=hn.kind;refine⟨⟨5,{ zeroNd id with af:=a1,nf:=s.nd.frm.length,cf:=c1 },false⟩,rfl,?_,?_,g⟩
 ·unfold Gr.cleanS;rw[if_neg (by omega),if_neg (by omega),if_neg (by omega),if_neg (by omega),if_pos h5];exact⟨rfl,⟨hn.nd.id,rfl,ho.rows encN_len,RowsAt.nil,rfl,rfl,OwnAt.cap ho⟩,rfl⟩
 ·unfold Gr.cleanS;rw[if_neg (by omega),if_neg (by omega),if_neg (by omega),if_neg (by omega),if_pos h5];exact⟨ho,OwnAt.nil _⟩
theorem clean_made2{w W:World}{c:NdC}{s:Gr.Stp}(hk:s.kind=2)(hn:NodeIs W c s.nd)(ho:OwnsNd w.heap.size W c s.nd)(g:Grew w W):
  CleanGives (Gr.cleanS s) w (.returned (.agg #[.int .i64 (StC.mk 2 c false).kind,.int .i64 (StC.mk 2 c false).c.id,.int .i64 (StC.mk 2 c false).c.kind,.slice (StC.mk 2 c false).c.af (StC.mk 2 c false).c.nf (StC.mk 2 c false).c.cf,.slice (StC.mk 2 c false).c.ap (StC.mk 2 c false).c.np (StC.mk 2 c false).c.cp,.int .i64 (StC.mk 2 c false).c.par,.int .i64 (StC.mk 2 c false).c.r0,.int .i64 (StC.mk 2 c false).c.r1,.int .i64 (StC.mk 2 c false).c.r2,.int .i64 (StC.mk 2 c false).c.r3,.int .i64 (StC.mk 2 c false).c.r4,.int .i64 (StC.mk 2 c false).c.r5,.int .i64 (StC.mk 2 c false).c.r6,.int .i64 (StC.mk 2 c false).c.r7,.bool (StC.mk 2 c false).reset])) W:=by
 refine⟨StC.mk 2 c false,rfl,?_,?_,g⟩
 ·unfold Gr.cleanS;rw[if_neg (by omega),if_pos hk];exact⟨rfl,hn,rfl⟩
 ·unfold Gr.cleanS;rw[if_neg (by omega),if_pos hk];exact ho
theorem clean49_0(kind:Int)(h1:kind≠1)(h2:kind≠2)(h3:kind≠3)(h4:kind≠4)(h5:kind≠5)(id kd par r0 r1 r2 r3 r4 r5 r6 r7:Int)(af ap:Option Addr)(nf cf np cp:Nat)(reset:Bool)(s:Gr.Stp)(w:World)(hn:StepIs w ⟨kind,⟨id,kd,af,nf,cf,ap,np,cp,par,r0,r1,r2,r3,r4,r5,r6,r7⟩,reset⟩ s)(hs:s.nd.frm.length≤1000∧s.nd.prog.length≤1000): Calls Tryz.prog 105 #[.agg #[.int .i64 kind,.int .i64 id,.int .i64 kd,.slice af nf cf,.slice ap np cp,.int .i64 par,.int .i64 r0,.int .i64 r1,.int .i64 r2,.int .i64 r3,.int .i64 r4,.int .i64 r5,.int .i64 r6,.int .i64 r7,.bool reset]] w (CleanGives (Gr.cleanS s) w):=by
 have hcl:=hn.clean;have HCL:=hY hcl;have HN:=hY hn;have H1:=hY fun W (g:Grew w W)=>cloneInts_any _ s.nd.frm W (HN.o.nd.f.grew g) hs.1
 have H2:=hY fun W (g:Grew w W)=>cloneVals_any _ s.nd.prog W (HN.o.nd.p.grew g) hs.2
 have HND:=hY hn.nd;have HS:=hY hs;have HK:=hY hn.kind;clear hn hcl hs;go_enter Tryz.func105,Tryz.ntmps105;go_wp2;have hcc:cleanC ⟨kind,⟨id,kd,af,nf,cf,ap,np,cp,par,r0,r1,r2,r3,r4,r5,r6,r7⟩,reset⟩=⟨0,zeroNd 0,false⟩:=by unfold cleanC;rw[if_neg h1,if_neg h2,if_neg h3,if_neg h4,if_neg h5]
 refine bodyPost_ret (res_clean49 rfl ?_) rfl ⟨cleanC ⟨kind,⟨id,kd,af,nf,cf,ap,np,cp,par,r0,r1,r2,r3,r4,r5,r6,r7⟩,reset⟩,by rw[hcc],HCL.o.grew ?_,clean_own HN.o h1 h2 h5,?_⟩
 ·first|exact heap_alloc' (heap_alloc' (heap_new_at (w.alloc _) _ _ (by simp[World.size_alloc])) _) _|exact grew_heap gw (heap_alloc' (heap_alloc' (heap_new_at (w.alloc _) _ _ (by simp[World.size_alloc])) _) _)
 ·exact gw
 ·exact gw
theorem clean49_3(id kd par r0 r1 r2 r3 r4 r5 r6 r7:Int)(af ap:Option Addr)(nf cf np cp:Nat)(reset:Bool)(s:Gr.Stp)(w:World)(hn:StepIs w ⟨3,⟨id,kd,af,nf,cf,ap,np,cp,par,r0,r1,r2,r3,r4,r5,r6,r7⟩,reset⟩ s)(hs:s.nd.frm.length≤1000∧s.nd.prog.length≤1000): Calls Tryz.prog 105 #[.agg #[.int .i64 3,.int .i64 id,.int .i64 kd,.slice af nf cf,.slice ap np cp,.int .i64 par,.int .i64 r0,.int .i64 r1,.int .i64 r2,.int .i64 r3,.int .i64 r4,.int .i64 r5,.int .i64 r6,.int .i64 r7,.bool reset]] w (CleanGives (Gr.cleanS s) w):=by
 have hcl:=hn.clean;have HCL:=hY hcl;have HN:=hY hn;have H1:=hY fun W (g:Grew w W)=>cloneInts_any _ s.nd.frm W (HN.o.nd.f.grew g) hs.1
 have H2:=hY fun W (g:Grew w W)=>cloneVals_any _ s.nd.prog W (HN.o.nd.p.grew g) hs.2
 have HND:=hY hn.nd;have HS:=hY hs;have HK:=hY hn.kind;clear hn hcl hs;go_enter Tryz.func105,Tryz.ntmps105;go_wp2;refine bodyPost_ret (res_clean49 rfl ?_) rfl ⟨cleanC ⟨3,⟨id,kd,af,nf,cf,ap,np,cp,par,r0,r1,r2,r3,r4,r5,r6,r7⟩,reset⟩,rfl,HCL.o.grew ?_,clean_own HN.o (by decide:(3:Int)≠1) (by decide:(3:Int)≠2) (by decide:(3:Int)≠5),?_⟩
 ·first|exact heap_alloc' (heap_alloc' (heap_new_at (w.alloc _) _ _ (by simp[World.size_alloc])) _) _|exact grew_heap gw (heap_alloc' (heap_alloc' (heap_new_at (w.alloc _) _ _ (by simp[World.size_alloc])) _) _)
 ·exact gw
 ·exact gw
theorem clean49_4(id kd par r0 r1 r2 r3 r4 r5 r6 r7:Int)(af ap:Option Addr)(nf cf np cp:Nat)(reset:Bool)(s:Gr.Stp)(w:World)(hn:StepIs w ⟨4,⟨id,kd,af,nf,cf,ap,np,cp,par,r0,r1,r2,r3,r4,r5,r6,r7⟩,reset⟩ s)(hs:s.nd.frm.length≤1000∧s.nd.prog.length≤1000): Calls Tryz.prog 105 #[.agg #[.int .i64 4,.int .i64 id,.int .i64 kd,.slice af nf cf,.slice ap np cp,.int .i64 par,.int .i64 r0,.int .i64 r1,.int .i64 r2,.int .i64 r3,.int .i64 r4,.int .i64 r5,.int .i64 r6,.int .i64 r7,.bool reset]] w (CleanGives (Gr.cleanS s) w):=by
 have hcl:=hn.clean;have HCL:=hY hcl;have HN:=hY hn;have H1:=hY fun W (g:Grew w W)=>cloneInts_any _ s.nd.frm W (HN.o.nd.f.grew g) hs.1
 have H2:=hY fun W (g:Grew w W)=>cloneVals_any _ s.nd.prog W (HN.o.nd.p.grew g) hs.2
 have HND:=hY hn.nd;have HS:=hY hs;have HK:=hY hn.kind;clear hn hcl hs;go_enter Tryz.func105,Tryz.ntmps105;go_wp2;refine bodyPost_ret (res_clean49 rfl ?_) rfl ⟨cleanC ⟨4,⟨id,kd,af,nf,cf,ap,np,cp,par,r0,r1,r2,r3,r4,r5,r6,r7⟩,reset⟩,rfl,HCL.o.grew ?_,clean_own HN.o (by decide:(4:Int)≠1) (by decide:(4:Int)≠2) (by decide:(4:Int)≠5),?_⟩
 ·first|exact heap_alloc' (heap_alloc' (heap_new_at (w.alloc _) _ _ (by simp[World.size_alloc])) _) _|exact grew_heap gw (heap_alloc' (heap_alloc' (heap_new_at (w.alloc _) _ _ (by simp[World.size_alloc])) _) _)
 ·exact gw
 ·exact gw
end Go.Proofs.YtipgfjihdglocaaGreat
