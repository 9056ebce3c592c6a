import Derived.Test.YtipgfjihdglocaaGreatCq25
import Derived.Test.YtipgfjihdglocaaGreatCq20
import Derived.Test.YtipgfjihdglocaaGreatCq22
import Derived.Test.YtipgfjihdglocaaGreatCq23
import Derived.Test.YtipgfjihdglocaaGreatCq12
import Derived.Test.YtipgfjihdglocaaGreatCq26
import Derived.Deep.DeepCutAuto
import Derived.Deep.CutBlock
import Derived.Test.YtipgfjihdglocaaGreatCq29
import Derived.Test.YtipgfjihdglocaaGreatCq5
set_option linter.unusedSimpArgs false
set_option linter.unusedVariables false
set_option maxRecDepth 100000
set_option maxHeartbeats 64000000
namespace Go.Proofs.YtipgfjihdglocaaGreat
open Go.RowKit Ga
theorem enters110:∀args w,(callFunc 110 args).run Tryz.prog w = .ok (.enter 110 args) w:=enters_of Tryz.func110 (by kernel_rfl) rfl
theorem step1_pred(id:Int)(X:Nat)(w:World)(hX:Pre X w)(hc:w.cell? ⟨X,1,none⟩=some (.int .i64 id)): PredN 110 #[.pointer (some ⟨X,0,none⟩)] (fun n=>n.id==id) w:=by
 intro W c n g hn;obtain⟨R,N,rfl⟩:=g;have hid:=hn.id;have HI:=hY hid;clear hn hid;obtain⟨cid,kind,af,nf,cf,ap,np,cp,par,r0,r1,r2,r3,r4,r5,r6,r7⟩:=c;have hb:(n.id==id)=(cid==id):=by rw[HI.o]
 show Calls Tryz.prog 110 #[.agg #[.int .i64 cid,.int .i64 kind,.slice af nf cf,.slice ap np cp,.int .i64 par,.int .i64 r0,.int .i64 r1,.int .i64 r2,.int .i64 r3,.int .i64 r4,.int .i64 r5,.int .i64 r6,.int .i64 r7],.pointer (some ⟨X,0,none⟩)] _ (Gives (.bool (n.id==id)) _);rw[hb];clear HI hb;go_enter Tryz.func110,Tryz.ntmps110;go_wp2;go_ret;refine⟨rfl,?_⟩;exact gw
theorem Work.setIx{w0 W:World}{B:Nat}{v:Value}{lc:List NdC}{l:List Gr.Nd}{st:StC}{s:Gr.Stp}{ix:Int}(h:Work w0 W B v lc l st s ix)(j:Int): Work w0 (W.setCell ⟨B,16,none⟩ (.int .i64 j)) B v lc l st s j:=by
 have ho:Oth W (W.setCell ⟨B,16,none⟩ (.int .i64 j)):=Oth.set h.blk (.inr rfl);have o2:=h.sto.toN ho;refine⟨?_,?_,h.inn.oth ho,{ h.stp with nd:=o2.is h.stp.nd },o2,h.g.set h.lb _,h.lb⟩
 ·rw[set_self h.blk]
  congr 2
 ·exact OwnAt.same h.own fun q hq=>set_other fun e=>OwnAt.other h.own h.blk (by decide) (e▸hq)
theorem Work.made{w0 W:World}{B:Nat}{v:Value}{lc:List NdC}{l:List Gr.Nd}{st:StC}{s:Gr.Stp}{C:Array Value}(hB:B=W.heap.size)(hg:Grew w0 W)(ho:NodesOwn w0.heap.size W v lc)(hn:NodesIn w0.heap.size W lc l)(hs:StepIs W st s)(h2:OwnsNd w0.heap.size W st.c s.nd)(hC:C=(wkC v st 0).toArray): Work w0 (W.alloc (.cells C 172)) B v lc l st s 0:=by
 subst hC;have g:Grew W (W.alloc (.cells (wkC v st 0).toArray 172)):=(Grew.refl _).alloc _;exact⟨heap_new_at _ _ _ hB,ho.grew g,hn.grew g,hs.grew g,h2.grew g,hg.trans g,by rw[hB];exact hg.below.size⟩
theorem NodesIn.low{base base':Nat}{w:World}{lc:List NdC}{l:List Gr.Nd}(h:NodesIn base w lc l)(hb:base'≤base): NodesIn base' w lc l :=
 Rel.mono (fun c n ⟨h1,h2⟩=>⟨h1,OwnAt.low h2.1 hb,OwnAt.low h2.2 hb⟩) h
def smallS(s:Gr.Stp): Prop:=s.nd.frm.length≤1000∧s.nd.prog.length≤1000
theorem small_set{l:List Gr.Nd}{i:Nat}{n:Gr.Nd}(h:Small l)(hn:n.frm.length≤1000∧n.prog.length≤1000): Small (l.set i n):=fun m hm=>by
 rcases List.mem_or_eq_of_mem_set hm with q|rfl
 ·exact h m q
 ·exact hn
theorem work_small{l:List Gr.Nd}{s:Gr.Stp}(h:Small l)(hs:smallS s): Small (workE l s).2∧(workE l s).2.length≤l.length+1:=by
 have hnil:Small ([]:List Gr.Nd):=fun m hm=>by cases hm
 have hcl:(Gr.cleanS s).nd.frm.length≤1000∧(Gr.cleanS s).nd.prog.length≤1000:=by
  unfold Gr.cleanS
  repeat' split
  all_goals first|exact hs|exact⟨by simp,hs.2⟩|exact⟨hs.1,by simp⟩|simp
 unfold workE;split
 ·unfold addE
  repeat' split
  ·exact⟨hnil,by simp⟩
  ·exact⟨hnil,by simp⟩
  ·refine⟨fun m hm=>?_,by simp⟩;rcases List.mem_append.1 hm with q|q
   ·exact h m q
   ·rw[List.mem_singleton.1 q];exact hcl
 ·split
  ·exact⟨hnil,by simp⟩
  ·split
   ·exact⟨hnil,by simp⟩
   ·rename_i n hn
    have hm:=h n (List.mem_of_getElem? hn);unfold chgE swapE
    repeat' split
    all_goals first
     | exact⟨hnil,by simp⟩
     | exact⟨small_set h ⟨hm.1,hcl.2⟩,by simp⟩
     | exact⟨small_set h ⟨hcl.1,hm.2⟩,by simp⟩
     | exact⟨small_set h hm,by simp⟩
     |refine⟨fun m hq=>?_,by simp;omega⟩
      rcases List.mem_append.1 hq with q|q
      ·exact h m (List.mem_of_mem_take q)
      ·exact h m (List.mem_of_mem_drop q)
theorem clean_kindP{s:Gr.Stp}(h:1≤s.kind∧s.kind≤5): (Gr.cleanS s).kind=s.kind:=by
 unfold Gr.cleanS;rcases (show s.kind=1∨s.kind=2∨s.kind=3∨s.kind=4∨s.kind=5 by omega) with e|e|e|e|e<;>simp[e]
theorem chg_none(w0 W:World)(B:Nat)(v:Value)(lc:List NdC)(l:List Gr.Nd)(st:StC)(s:Gr.Stp)(h:Work w0 W B v lc l st s (-1)): Calls Tryz.prog 112 #[.pointer (some ⟨B,0,none⟩)] W (WkPost w0 B st s (-1) (12,[]) W):=by
 have H:=hY h;have x16:=cell_of (o:=16) h.blk;have pB:=Pre.mk (heap_lt h.blk);simp[wkC,encSt] at x16;clear h;go_enter Tryz.func112,Tryz.ntmps112;go_wp2;go_ret;exact⟨rfl,fun q=>absurd q (by decide),H.o.g.trans gw⟩
theorem change_any(w0 W:World)(B:Nat)(v:Value)(lc:List NdC)(l:List Gr.Nd)(st:StC)(s z:Gr.Stp)(hz:z=Gr.cleanS s)(h:Work w0 W B v lc l st z (findI l s.nd.id))(hl:l.length≤100)(h2:s.kind≠2)(hk:1≤s.kind∧s.kind≤5):
  Calls Tryz.prog 112 #[.pointer (some ⟨B,0,none⟩)] W (WkPost w0 B st z (findI l s.nd.id) (workE l s) W):=by
 subst hz;unfold workE;rw[if_neg h2]
 cases hf:Gr.find l s.nd.id with
 |none =>
  have hfi:findI l s.nd.id = -1:=by unfold findI;rw[hf]
  rw[hfi] at h ⊢
  exact chg_none w0 W B v lc l st _ h
 |some i =>
  obtain⟨hi,hid⟩:=find_at hf;have hfi:findI l s.nd.id=i:=by unfold findI;rw[hf]
  rw[hfi] at h ⊢;simp only[List.getElem?_eq_getElem hi];have hck:=clean_kindP hk;have hlen:=Rel.len h.inn;rcases OwnAt.form h.own with ⟨-,e⟩|⟨b,cap,rfl,-⟩
  ·rw[e] at hlen;simp at hlen;omega
  rcases (show s.kind=1∨s.kind=3∨s.kind=4∨s.kind=5 by omega) with q|q|q|q
  ·exact chg1 w0 W B b _ cap i lc l st _ h hi hl (by rw[hck,q])
  ·exact chg3 w0 W B b _ cap i lc l st _ h hi hl (by rw[hck,q])
  ·exact chg4 w0 W B b _ cap i lc l st _ h hi hl (by rw[hck,q])
  ·exact chg5 w0 W B b _ cap i lc l st _ h hi hl (by rw[hck,q])
def StepPost(r:Int×List Gr.Nd)(w:World)(e:Ending)(w':World): Prop:=Grew w w'∧((r.1≠0∧e = .returned (.tuple #[.slice none 0 0,.int .i64 r.1]))∨(r.1=0∧∃v lc l',e = .returned (.tuple #[v,.int .i64 0])∧NodesOwn w.heap.size w' v lc∧NodesIn w.heap.size w' lc l'∧l'.Perm r.2∧l'.Pairwise fun a b=>a.id≤b.id))
theorem step_bad(v:Value)(l:List Gr.Nd)(c:StC)(s:Gr.Stp)(w:World)(hv:NodesAt w v l)(hs:Small l)(hst:StepIs w c s)(hb:checkR l≠0∨s.kind<1∨5<s.kind): Calls Tryz.prog 46 #[v,.agg #[.int .i64 c.kind,.int .i64 c.c.id,.int .i64 c.c.kind,.slice c.c.af c.c.nf c.c.cf,.slice c.c.ap c.c.np c.c.cp,.int .i64 c.c.par,.int .i64 c.c.r0,.int .i64 c.c.r1,.int .i64 c.c.r2,.int .i64 c.c.r3,.int .i64 c.c.r4,.int .i64 c.c.r5,.int .i64 c.c.r6,.int .i64 c.c.r7,.bool c.reset]] w (StepPost (Gr.stepE checkR l s) w):=by
 have HCK:=hY fun W2 (g:Grew w W2)=>check_graph v l W2 (hv.grew g) hs
 have hk:=hst.kind;obtain⟨a,cap,rfl,hm,-⟩:=hv.openC;clear hv hs;obtain⟨kd,⟨id,kind,af,nf,cf,ap,np,cp,par,r0,r1,r2,r3,r4,r5,r6,r7⟩,rs⟩:=c;simp only at hk;by_cases h0:checkR l≠0
 ·have he:Gr.stepE checkR l s=(10,[]):=if_pos h0;rw[he];obtain⟨r,hr⟩:∃r,checkR l=r:=⟨_,rfl⟩;rw[hr] at HCK h0;have hne:(r != 0)=true:=by rw[bne_iff_ne];exact h0
  clear hr h0 hb he hst hk;go_enter Tryz.func46,Tryz.ntmps46
  go_wp2_with (go_at_call 7;refine(HCK.o _ gw).mono ?_;rintro e w1 ⟨rfl,R3,n3,rfl⟩)
  refine bodyPost_ret (v:=.tuple #[.slice none 0 0,.int .i64 10]) (by simp[results,Tryz.results46,go_sem]) rfl ⟨gw,.inl ⟨by decide,rfl⟩⟩
 ·have h1:s.kind<1∨5<s.kind:=hb.resolve_left h0;have he:Gr.stepE checkR l s=(11,[]):=by unfold Gr.stepE;rw[if_neg h0,if_pos h1]
  rw[he];have h00:checkR l=0:=by simpa using h0
  rw[h00] at HCK;rw[hk] at h1;clear h00 h0 hb he hst hk;rcases h1 with h1|h1
  ·go_enter Tryz.func46,Tryz.ntmps46
   go_wp2_with (go_at_call 7;refine(HCK.o _ gw).mono ?_;rintro e w1 ⟨rfl,R3,n3,rfl⟩)
   refine bodyPost_ret (v:=.tuple #[.slice none 0 0,.int .i64 11]) (by simp[results,Tryz.results46,go_sem]) rfl ⟨gw,.inl ⟨by decide,rfl⟩⟩
  ·have h1':¬(kd<1):=by omega
   go_enter Tryz.func46,Tryz.ntmps46
   go_wp2_with (go_at_call 7;refine(HCK.o _ gw).mono ?_;rintro e w1 ⟨rfl,R3,n3,rfl⟩)
   refine bodyPost_ret (v:=.tuple #[.slice none 0 0,.int .i64 11]) (by simp[results,Tryz.results46,go_sem]) rfl ⟨gw,.inl ⟨by decide,rfl⟩⟩
theorem step_err{l l':List Gr.Nd}{s:Gr.Stp}{w w':World}(hp:l'.Perm l)(r:Int)(hr:r≠0)(h:(Gr.stepE checkR l' s).1=r)(g:Grew w w'): StepPost (Gr.stepE checkR l s) w (.returned (.tuple #[.slice none 0 0,.int .i64 r])) w':=by
 have e:=(Gr.stepE_perm chkR hp s).1;rw[h] at e;exact⟨g,.inl ⟨by rw[←e];exact hr,by rw[←e]⟩⟩
theorem step_good{l l' l2:List Gr.Nd}{s:Gr.Stp}{w w':World}{e:Ending}{W:World}(hp:l'.Perm l)(h:Gr.stepE checkR l' s=(0,l2))(hn:NormGives l2 W e w')(g:Grew w W): ∃v,e = .returned v∧StepPost (Gr.stepE checkR l s) w (.returned (.tuple #[v,.int .i64 0])) w':=by
 obtain⟨v,lc,l3,rfl,h1,h2,h3,h4,h5⟩:=hn;obtain⟨e1,e2⟩:=Gr.stepE_perm chkR hp s;rw[h] at e1 e2;exact⟨v,rfl,g.trans h5,.inr ⟨e1.symm,v,lc,l3,rfl,OwnAt.low h1 g.below.size,NodesIn.low h2 g.below.size,h3.trans e2,h4⟩⟩
theorem step_ok(v:Value)(l:List Gr.Nd)(c:StC)(s:Gr.Stp)(w:World)(hv:NodesAt w v l)(hs:Small l)(hst:StepIs w c s)(hss:smallS s)(hc:checkR l=0)(hk:1≤s.kind∧s.kind≤5): Calls Tryz.prog 46 #[v,.agg #[.int .i64 c.kind,.int .i64 c.c.id,.int .i64 c.c.kind,.slice c.c.af c.c.nf c.c.cf,.slice c.c.ap c.c.np c.c.cp,.int .i64 c.c.par,.int .i64 c.c.r0,.int .i64 c.c.r1,.int .i64 c.c.r2,.int .i64 c.c.r3,.int .i64 c.c.r4,.int .i64 c.c.r5,.int .i64 c.c.r6,.int .i64 c.c.r7,.bool c.reset]] w (StepPost (Gr.stepE checkR l s) w):=by
 have hl8:=(checkR_right hc).len;have HCK:=hY fun W2 (g:Grew w W2)=>check_graph v l W2 (hv.grew g) hs
 rw[hc] at HCK;have HN:=hY fun W2 (g:Grew w W2)=>norm_any v l W2 (hv.grew g) hs (by omega)
 have HCL:=hY fun W2 (g:Grew w W2)=>clean49_any c s W2 (hst.grew g) hss
 have hsk:=hst.kind;have hsi:=hst.nd.id;obtain⟨a,cap,rfl,hm,-⟩:=hv.openC;have HST:=hY hst;clear hv hst;obtain⟨kd,⟨id,kind,af,nf,cf,ap,np,cp,par,r0,r1,r2,r3,r4,r5,r6,r7⟩,rs⟩:=c;simp only at hsk hsi HCL;have hk1:¬(kd<1):=by omega
 have hk5:¬(5<kd):=by omega
 have HK:=hY hk;have HC:=hY hc;have HSM:=hY hs;have HSS:=hY hss;have HL8:=hY hl8;have HSK:=hY hsk;have HSI:=hY hsi;have hbx:=heap_new_at w (.cells #[.int .i64 kd,.int .i64 id,.int .i64 kind,.slice af nf cf,.slice ap np cp,.int .i64 par,.int .i64 r0,.int .i64 r1,.int .i64 r2,.int .i64 r3,.int .i64 r4,.int .i64 r5,.int .i64 r6,.int .i64 r7,.bool rs] 69) _ rfl;have HBX:=hY hbx;clear hk hc hs hss hl8 hsk hsi hbx;go_enter Tryz.func46,Tryz.ntmps46
 go_upto_region 5 with (go_at_call 7;refine(HCK.o _ gw).mono ?_;rintro e w1 ⟨rfl,R3,n3,rfl⟩)
 go_cut [6] (fun s6 wx=>∃B v' lc l' d,s6 = .pointer (some ⟨B,0,none⟩)∧Work w wx B v' lc l' d (Gr.cleanS s) 0∧l'.Perm l∧wx.heap[w.heap.size]? = some (.cells #[.int .i64 kd,.int .i64 id,.int .i64 kind,.slice af nf cf,.slice ap np cp,.int .i64 par,.int .i64 r0,.int .i64 r1,.int .i64 r2,.int .i64 r3,.int .i64 r4,.int .i64 r5,.int .i64 r6,.int .i64 r7,.bool rs] 69))
 case first =>
  refine wp_region_noPanic ?_
  go_region_law (first
   | (go_simp;go_at_call 55;refine(HN.o _ gw).mono ?_;rintro e1 w1 ⟨v1,lc1,l1,rfl,ho1,hn1,hp1,-,R1,m1,rfl⟩;obtain⟨av,cv,rfl⟩:=(OwnAt.rows ho1 encNd_len).len;(have HO1:=hY ho1);(have HN1:=hY hn1);(have HP1:=hY hp1);clear ho1 hn1 hp1)
   | (go_simp;go_at_call 105;refine(HCL.o _ gw).mono ?_;rintro e2 w2 ⟨⟨kd2,⟨id2,kind2,af2,nf2,cf2,ap2,np2,cp2,par2,s0,s1,s2,s3,s4,s5,s6,s7⟩,rs2⟩,rfl,hd2,ho2,R2,m2,rfl⟩;(have HD2:=hY hd2);(have HO2:=hY ho2);clear hd2 ho2))
  all_goals
   refine NoPanic.normal ?_;go_wp2
   go_meet
   refine⟨_,.slice av lc1.length cv,lc1,l1,⟨kd2,⟨id2,kind2,af2,nf2,cf2,ap2,np2,cp2,par2,s0,s1,s2,s3,s4,s5,s6,s7⟩,rs2⟩,rfl,?_,HP1.o,grew_heap gw HBX.o⟩;exact Work.made (by simp[go_sem]) gw (OwnAt.grew (OwnAt.low HO1.o (by simp[go_sem];omega)) gw) (NodesIn.grew (NodesIn.low HN1.o (by simp[go_sem];omega)) gw) (HD2.o.grew gw) (OwnsNd.grew (base:=w.heap.size) ⟨OwnAt.low HO2.o.1 (by simp[go_sem];omega),OwnAt.low HO2.o.2 (by simp[go_sem];omega)⟩ gw) rfl
 obtain⟨B,v',lc,l',d,rfl,hw,hp,hbx⟩:=hcut;have hlen:=Rel.len hw.inn;have hl9:l'.length≤8:=by rw[hp.length_eq];exact HL8.o
 have hck':checkR l'=0:=(chkR.perm hp).trans HC.o;have hsm':Small l':=fun m hm=>HSM.o m (hp.mem_iff.1 hm)
 have HW:=hY hw;have HP:=hY hp;have HBX2:=hY hbx;have HL9:=hY hl9;have HCK2:=hY hck';have HSM2:=hY hsm';have HIX:=hY fun W2 (g:Grew wc W2)=>indexNodes_any v' l' 110 #[.pointer (some ⟨w.heap.size,0,none⟩)] (fun n=>n.id==s.nd.id) W2 ((NodesIn.at hw.inn hw.own).grew g) enters110 (step1_pred s.nd.id w.heap.size W2 (Pre.mk (heap_lt (grew_heap g hbx))) (by rw[cell_of (grew_heap g hbx),HSI.o];rfl))
 have x0:=cell_of (o:=0) hw.blk;have x16:=cell_of (o:=16) hw.blk;have f16:=frozen_of (o:=16) hw.blk;have pB:=Pre.mk (heap_lt hw.blk);obtain⟨av,cv,rfl⟩:=(OwnAt.rows hw.own encNd_len).len;simp[wkC,encSt] at x0 x16;have y0:=cell_of (o:=0) hbx;simp at y0;have pX:=Pre.mk (heap_lt hbx)
 have hBX:¬(B=w.heap.size):=fun e=>by
  have:=hw.blk;rw[e,hbx] at this;cases this
 have hBX2:¬(w.heap.size=B):=fun e=>hBX e.symm
 have HW6:Hid (∀W2,Grew wc W2→Work w (W2.setCell ⟨B,16,none⟩ (.int .i64 (findI l' s.nd.id))) B (.slice av lc.length cv) lc l' d (Gr.cleanS s) (findI l' s.nd.id)):=hY fun W2 g=>(HW.o.grew g).setIx _
 clear hw hp hbx hlen hl9 hck' hsm' HBX
 go_upto_if 38 with (first
  | (go_at_call 109;((with_reducible refine Calls.mono (HIX.o _ ?_) ?_));(focus(exact gw));rintro e w1 ⟨rfl,R4,n4,rfl⟩;rw[find_idxP]))
 have hwy:Work w ((wc.setCell ⟨B,16,none⟩ (.int .i64 (findI l' s.nd.id))).more R4 n4) B (.slice av lc.length cv) lc l' d (Gr.cleanS s) (findI l' s.nd.id):=Work.grew (HW6.o _ (Grew.refl _)) gw;have HWY:=hY hwy;clear hwy x0 x16 f16 pB y0 pX hBX hBX2 HIX HW6 HW HBX2;generalize (wc.setCell ⟨B,16,none⟩ (.int .i64 (findI l' s.nd.id))).more R4 n4=wy at *
 go_cut [7] (fun s7 wz=>s7 = .int .i64 (workE l' s).1∧((workE l' s).1=0→∃v9 lc9,Work w wz B v9 lc9 (workE l' s).2 d (Gr.cleanS s) (findI l' s.nd.id))∧Grew w wz)
 case first =>
  by_cases h2:kd=2
  ·have he:workE l' s=addE l' (Gr.cleanS s) (findI l' s.nd.id):=if_pos (by rw[HSK.o];exact h2);have HAD:=hY fun W2 (g:Grew wy W2)=>add_any w W2 B _ lc l' d (Gr.cleanS s) _ (HWY.o.grew g) (by have:=HL9.o;omega)
   have HE:=hY he;subst h2;clear he
   go_wp2_with (go_at_call 111;((with_reducible refine Calls.mono (HAD.o _ ?_) ?_));(focus(exact gw));rintro e9 w9 ⟨rfl,hw9,hg9⟩;(have HW9:=hY hw9);(have HG9:=hY hg9);clear hw9 hg9)
   go_meet
   rw[HE.o];exact⟨rfl,HW9.o,HG9.o⟩
  ·have hne:(kd==2)=false:=by simpa using h2
   have HCH:=hY fun W2 (g:Grew wy W2)=>change_any w W2 B _ lc l' d s _ rfl (HWY.o.grew g) (by have:=HL9.o;omega) (by rw[HSK.o];exact h2) HK.o
   clear h2
   go_wp2_with (go_at_call 112;((with_reducible refine Calls.mono (HCH.o _ ?_) ?_));(focus(exact gw));rintro e9 w9 ⟨rfl,hw9,hg9⟩;(have HW9:=hY hw9);(have HG9:=hY hg9);clear hw9 hg9)
   go_meet
   exact⟨rfl,HW9.o,HG9.o⟩
 obtain⟨rfl,hW9,hg9⟩:=hcut;have hws:=work_step (s:=s) HCK2.o HK.o;obtain⟨hsm9,hlen9⟩:=work_small (s:=s) HSM2.o HSS.o;generalize workE l' s=r at *;obtain⟨r1,l9⟩:=r;simp only at hW9 hws hsm9 hlen9 ⊢;have HG9:=hY hg9;by_cases hr:r1=0
 case neg =>
  have hst:(Gr.stepE checkR l' s).1=r1:=by
   rcases hws with ⟨_,e⟩|⟨e,_⟩
   ·rw[e]
   ·exact absurd e hr
  have HS9:=hY hst;have HR9:=hY hr;have hb1:(r1==0)=false:=by simpa using hr
  have hb2:(r1 != 0)=true:=by rw[bne_iff_ne];exact hr
  clear hst hws hW9 hg9 hr;go_wp2;exact bodyPost_ret (v:=.tuple #[.slice none 0 0,.int .i64 r1]) (by simp[results,Tryz.results46,go_sem]) rfl (step_err HP.o r1 HR9.o HS9.o (HG9.o.trans gw))
 subst hr;obtain⟨v9,lc9,hw9⟩:=hW9 rfl
 have hst:Gr.stepE checkR l' s=Gr.finE checkR l9:=by
  rcases hws with ⟨e,_⟩|⟨_,e⟩
  ·exact absurd rfl e
  ·exact e
 have hat:=NodesIn.at hw9.inn hw9.own;have HCK9:=hY fun W2 (g:Grew wc W2)=>check_graph v9 l9 W2 (hat.grew g) hsm9
 have HN9:=hY fun W2 (g:Grew wc W2)=>norm_any v9 l9 W2 (hat.grew g) hsm9 (by have:=HL9.o;omega)
 have x0:=cell_of (o:=0) hw9.blk;have pB:=Pre.mk (heap_lt hw9.blk);obtain⟨av9,cv9,rfl⟩:=(OwnAt.rows hw9.own encNd_len).len;simp[wkC] at x0;obtain⟨q,hq⟩:∃q,checkR l9=q:=⟨_,rfl⟩;rw[hq] at HCK9;have HST9:=hY hst;have HQ:=hY hq;clear hst hq hws hW9 hg9 hw9 hat hsm9 hlen9;by_cases hq0:q=0
 case neg =>
  have hb2:(q != 0)=true:=by rw[bne_iff_ne];exact hq0
  have HS9:Hid ((Gr.stepE checkR l' s).1=q):=hY (by rw[HST9.o];unfold Gr.finE;rw[HQ.o,if_pos hq0]);have HQ0:=hY hq0;clear hq0
  go_wp2_with (go_at_call 7;((with_reducible refine Calls.mono (HCK9.o _ ?_) ?_));(focus(exact gw));rintro e w1 ⟨rfl,R5,n5,rfl⟩)
  exact bodyPost_ret (v:=.tuple #[.slice none 0 0,.int .i64 q]) (by simp[results,Tryz.results46,go_sem]) rfl (step_err HP.o q HQ0.o HS9.o (HG9.o.trans gw))
 subst hq0;have HS9:Hid (Gr.stepE checkR l' s=(0,l9)):=hY (by rw[HST9.o];unfold Gr.finE;rw[HQ.o];rfl)
 go_wp2_with (first
  | (go_at_call 7;((with_reducible refine Calls.mono (HCK9.o _ ?_) ?_));(focus(exact gw));rintro e w1 ⟨rfl,R5,n5,rfl⟩)
  | (go_at_call 55;((with_reducible refine Calls.mono (HN9.o _ ?_) ?_));(focus(exact gw));intro e6 w6 hn6;obtain⟨v6,rfl,hp6⟩:=step_good HP.o HS9.o hn6 (HG9.o.trans gw);(have HP6:=hY hp6);clear hn6 hp6))
 exact bodyPost_ret (v:=.tuple #[v6,.int .i64 0]) (by simp[results,Tryz.results46,go_sem]) rfl HP6.o
theorem planStep_any(v:Value)(l:List Gr.Nd)(c:StC)(s:Gr.Stp)(w:World)(hv:NodesAt w v l)(hs:Small l)(hst:StepIs w c s)(hss:smallS s): Calls Tryz.prog 46 #[v,.agg #[.int .i64 c.kind,.int .i64 c.c.id,.int .i64 c.c.kind,.slice c.c.af c.c.nf c.c.cf,.slice c.c.ap c.c.np c.c.cp,.int .i64 c.c.par,.int .i64 c.c.r0,.int .i64 c.c.r1,.int .i64 c.c.r2,.int .i64 c.c.r3,.int .i64 c.c.r4,.int .i64 c.c.r5,.int .i64 c.c.r6,.int .i64 c.c.r7,.bool c.reset]] w (StepPost (Gr.stepE checkR l s) w):=by
 by_cases hc:checkR l=0
 ·by_cases hk:1≤s.kind∧s.kind≤5
  ·exact step_ok v l c s w hv hs hst hss hc hk
  ·exact step_bad v l c s w hv hs hst (.inr (by omega))
 ·exact step_bad v l c s w hv hs hst (.inl hc)
theorem stepE_small{l:List Gr.Nd}{s:Gr.Stp}(h:Small l)(hs:smallS s): Small (Gr.stepE checkR l s).2:=by
 have hnil:Small ([]:List Gr.Nd):=fun m hm=>by cases hm
 by_cases hc:checkR l=0
 ·by_cases hk:1≤s.kind∧s.kind≤5
  ·rcases work_step (s:=s) hc hk with ⟨_,e⟩|⟨_,e⟩
   ·rw[e];exact hnil
   ·rw[e];unfold Gr.finE;split
    ·exact hnil
    ·exact(work_small h hs).1
  ·unfold Gr.stepE;rw[if_neg (by rw[hc];decide),if_pos (by omega)];exact hnil
 ·unfold Gr.stepE;rw[if_pos hc];exact hnil
theorem small_perm{l l':List Gr.Nd}(h:Small l)(hp:l'.Perm l): Small l':=fun m hm=>h m (hp.mem_iff.1 hm)
def ApplyPost(r:Int×Nat×List Gr.Nd)(w:World)(e:Ending)(w':World): Prop:=Grew w w'∧((r.1≠0∧e = .returned (.tuple #[.slice none 0 0,.int .i64 (r.2.1:Int),.int .i64 r.1]))∨(r.1=0∧∃v lc l',e = .returned (.tuple #[v,.int .i64 0,.int .i64 0])∧NodesOwn w.heap.size w' v lc∧NodesIn w.heap.size w' lc l'∧l'.Perm r.2.2∧(l'.Pairwise fun a b=>a.id≤b.id)∧Small l'))
def SameE(a b:Int×Nat×List Gr.Nd): Prop:=a.1=b.1∧a.2.1=b.2.1∧a.2.2.Perm b.2.2
theorem SameE.refl(a:Int×Nat×List Gr.Nd): SameE a a:=⟨rfl,rfl,List.Perm.refl _⟩
theorem SameE.trans{a b c:Int×Nat×List Gr.Nd}(h:SameE a b)(k:SameE b c): SameE a c:=⟨h.1.trans k.1,h.2.1.trans k.2.1,h.2.2.trans k.2.2⟩
theorem stepsE_go{l l2:List Gr.Nd}{p:List Gr.Stp}{k:Nat}(hk:k<p.length)(h0:(Gr.stepE checkR l p[k]).1=0)(hp:l2.Perm (Gr.stepE checkR l p[k]).2): SameE (Gr.stepsE checkR l (p.drop k) k) (Gr.stepsE checkR l2 (p.drop (k+1)) (k+1)):=by
 rw[List.drop_eq_getElem_cons hk,Gr.stepsE,if_neg (by rw[h0];simp)];obtain⟨a,b,c⟩:=Gr.stepsE_perm chkR (p.drop (k+1)) (k+1) hp;exact⟨a.symm,b.symm,c.symm⟩
theorem stepsE_no{l:List Gr.Nd}{p:List Gr.Stp}{k:Nat}(hk:k<p.length)(h0:(Gr.stepE checkR l p[k]).1≠0): Gr.stepsE checkR l (p.drop k) k=((Gr.stepE checkR l p[k]).1,k+1,[]):=by
 rw[List.drop_eq_getElem_cons hk,Gr.stepsE,if_pos h0]
theorem step_zero{l9:List Gr.Nd}{w w':World}{e:Ending}(h:StepPost ((0,l9):Int×List Gr.Nd) w e w'): Grew w w'∧∃v lc l',e = .returned (.tuple #[v,.int .i64 0])∧NodesOwn w.heap.size w' v lc∧NodesIn w.heap.size w' lc l'∧l'.Perm l9∧l'.Pairwise fun a b=>a.id≤b.id:=by
 rcases h with ⟨g,⟨h1,-⟩|⟨-,h2⟩⟩
 ·exact absurd rfl h1
 ·exact⟨g,h2⟩
theorem step_not{r:Int×List Gr.Nd}{w w':World}{e:Ending}(hr:r.1≠0)(h:StepPost r w e w'): e = .returned (.tuple #[.slice none 0 0,.int .i64 r.1])∧Grew w w':=by
 rcases h with ⟨g,⟨-,h2⟩|⟨h1,-⟩⟩
 ·exact⟨h2,g⟩
 ·exact absurd h1 hr
theorem planApply_bad(v vp:Value)(l:List Gr.Nd)(p:List Gr.Stp)(w:World)(hv:NodesAt w v l)(hs:Small l)(hp:StepsAt w vp p)(hb:checkR l≠0∨p.length<1∨6<p.length): Calls Tryz.prog 11 #[v,vp] w (ApplyPost (Gr.applyE checkR l p) w):=by
 have HCK:=hY fun W2 (g:Grew w W2)=>check_graph v l W2 (hv.grew g) hs
 obtain⟨a,cap,rfl,hm,-⟩:=hv.openC;obtain⟨a2,cap2,rfl,hm2,-⟩:=hp.openC;clear hv hs hp;by_cases h0:checkR l≠0
 ·have he:Gr.applyE checkR l p=(10,0,[]):=if_pos h0;rw[he];obtain⟨r,hr⟩:∃r,checkR l=r:=⟨_,rfl⟩;rw[hr] at HCK h0;have hne:(r != 0)=true:=by rw[bne_iff_ne];exact h0
  clear hr h0 hb he;go_enter Tryz.func11,Tryz.ntmps11
  go_wp2_with (go_at_call 7;refine(HCK.o _ gw).mono ?_;rintro e w1 ⟨rfl,R3,n3,rfl⟩)
  refine bodyPost_ret (v:=.tuple #[.slice none 0 0,.int .i64 0,.int .i64 10]) (by simp[results,Tryz.results11,go_sem]) rfl ⟨gw,.inl ⟨by decide,rfl⟩⟩
 ·have h1:=hb.resolve_left h0;have he:Gr.applyE checkR l p=(11,0,[]):=by unfold Gr.applyE;rw[if_neg h0,if_pos h1]
  rw[he];have h00:checkR l=0:=by simpa using h0
  rw[h00] at HCK;clear h00 h0 hb he;rcases h1 with h1|h1
  ·have h1':(p.length:Int)<1:=by omega
   go_enter Tryz.func11,Tryz.ntmps11
   go_wp2_with (go_at_call 7;refine(HCK.o _ gw).mono ?_;rintro e w1 ⟨rfl,R3,n3,rfl⟩)
   refine bodyPost_ret (v:=.tuple #[.slice none 0 0,.int .i64 0,.int .i64 11]) (by simp[results,Tryz.results11,go_sem]) rfl ⟨gw,.inl ⟨by decide,rfl⟩⟩
  ·have h1':¬((p.length:Int)<1):=by omega
   have h1'':(6:Int)<(p.length:Int):=by omega
   go_enter Tryz.func11,Tryz.ntmps11
   go_wp2_with (go_at_call 7;refine(HCK.o _ gw).mono ?_;rintro e w1 ⟨rfl,R3,n3,rfl⟩)
   refine bodyPost_ret (v:=.tuple #[.slice none 0 0,.int .i64 0,.int .i64 11]) (by simp[results,Tryz.results11,go_sem]) rfl ⟨gw,.inl ⟨by decide,rfl⟩⟩
theorem planApply_ok(v vp:Value)(l:List Gr.Nd)(p:List Gr.Stp)(w:World)(hv:NodesAt w v l)(hs:Small l)(hp:StepsAt w vp p)(hps:∀s∈p,smallS s)(hc:checkR l=0)(h1:1≤p.length)(h6:p.length≤6): Calls Tryz.prog 11 #[v,vp] w (ApplyPost (Gr.applyE checkR l p) w):=by
 have he:Gr.applyE checkR l p=Gr.stepsE checkR l p 0:=by unfold Gr.applyE;rw[if_neg (by rw[hc];simp),if_neg (by omega)]
 rw[he];have HCK:=hY fun W2 (g:Grew w W2)=>check_graph v l W2 (hv.grew g) hs
 rw[hc] at HCK;have HV:=hY hv;have HS:=hY hs;have HPS:=hY hps;have HP:=hY hp;obtain⟨a,cap,rfl,hm,-⟩:=hv.openC;obtain⟨a2,cap2,rfl,hm2,-⟩:=hp.openC;clear he hc hv hs hps hp;have h1':¬((p.length:Int)<1):=by omega
 have h6':¬((6:Int)<(p.length:Int)):=by omega
 go_enter Tryz.func11,Tryz.ntmps11
 go_wp2_with (go_at_call 7;refine(HCK.o _ gw).mono ?_;rintro e w1 ⟨rfl,R3,n3,rfl⟩)
 go_loopg [0,26] p.length (fun gg s0 s26 wr=>∃(k:Nat) (lk:List Gr.Nd),k≤p.length∧p.length-k≤gg∧s26 = .int .i64 k∧Hid (Grew w wr)∧Hid (NodesAt wr s0 lk)∧Hid (Small lk)∧Hid (SameE (Gr.stepsE checkR l p 0) (Gr.stepsE checkR lk (p.drop k) k))∧Hid (k≠0→∃lc,NodesOwn w.heap.size wr s0 lc∧NodesIn w.heap.size wr lc lk∧lk.Pairwise fun a b=>a.id≤b.id))
 case atStart=>exact⟨0,l,by omega,by omega,rfl,hY gw,hY (HV.o.grew gw),HS,hY (SameE.refl _),hY fun q=>absurd rfl q⟩
 case round =>
  obtain⟨k,lk,hk,hgg,rfl,HG,HA,HSM,HE,HO⟩:=hrel;rename World=>wa;by_cases hlt:k<p.length
  ·obtain⟨a',cap',e,-,hx⟩:=(HP.o.grew HG.o).openC;cases e;obtain⟨b,off,c,rfl,hb,hn,c0,c1,c2,c3,c4,c5,c6,c7,c8,c9,c10,c11,c12,c13,c14⟩:=hx k hlt;have HST:=hY fun W2 (g:Grew wa W2)=>planStep_any _ lk c p[k] W2 (HA.o.grew g) HSM.o (hn.grew g) (HPS.o _ (List.getElem_mem hlt))
   have HN0:=hY (stepsE_no (l:=lk) hlt);have HGO:=hY fun l2=>stepsE_go (l:=lk) (l2:=l2) hlt
   have HSS:=hY (stepE_small HSM.o (HPS.o _ (List.getElem_mem hlt)));obtain⟨a9,cap9,rfl,-,-⟩:=HA.o.openC;generalize Gr.stepE checkR lk p[k]=r at *;obtain⟨r1,l9⟩:=r;clear hx hn;obtain⟨kd,⟨id,kind,af,nf,cf,ap,np,cp,par,r0,q1,q2,q3,q4,q5,q6,q7⟩,rs⟩:=c;simp only at c0 c1 c2 c3 c4 c5 c6 c7 c8 c9 c10 c11 c12 c13 c14 HST;simp only at HN0 HGO HSS;by_cases hr:r1=0
   ·subst hr;have HST2:=hY fun W2 (g:Grew wa W2)=>(HST.o W2 g).mono fun e w' h=>step_zero h
    clear HST HN0
    go_wp2_with (go_at_call 46;((with_reducible refine Calls.mono (HST2.o _ ?_) ?_));(focus(exact gw));rintro e5 w5 ⟨hg5,v5,lc5,l5,rfl,ho5,hn5,hp5,hs5⟩;obtain⟨a5,cp5,rfl⟩:=(OwnAt.rows ho5 encNd_len).len;(have HG5:=hY hg5);(have HO5:=hY ho5);(have HN5:=hY hn5);(have HP5:=hY hp5);(have HS5:=hY hs5);clear hg5 ho5 hn5 hp5 hs5)
    have hw5:Grew w w5:=HG.o.trans (Grew.trans gw HG5.o);have hbase:w.heap.size≤(wa.alloc (.cells #[.int .i64 kd,.int .i64 id,.int .i64 kind,.slice af nf cf,.slice ap np cp,.int .i64 par,.int .i64 r0,.int .i64 q1,.int .i64 q2,.int .i64 q3,.int .i64 q4,.int .i64 q5,.int .i64 q6,.int .i64 q7,.bool rs] 69)).heap.size:=(HG.o.trans gw).below.size;have hown:=OwnAt.low HO5.o hbase;have hin:=NodesIn.low HN5.o hbase
    go_roundg (p.length-(k+1))
    case measure=>omega
    case rel=>exact⟨k+1,l5,by omega,by omega,by go_num,hY (hw5.trans gw),hY ((NodesIn.at hin hown).grew gw),hY (small_perm HSS.o HP5.o),hY (HE.o.trans (HGO.o _ (by first|trivial|rfl) HP5.o)),hY fun _=>⟨lc5,OwnAt.grew hown gw,hin.grew gw,HS5.o⟩⟩
   ·have HST2:=hY fun W2 (g:Grew wa W2)=>(HST.o W2 g).mono fun e w' h=>step_not (r:=(r1,l9)) hr h
    have hb2:(r1 != 0)=true:=by rw[bne_iff_ne];exact hr
    have HR:=hY hr;have hwk:IntKind.i64.wrap ((k:Int)+1)=(k:Int)+1:=IntWalk.i64_in _ (by omega);clear HST hr;simp only at HST2
    go_wp2_with (go_at_call 46;((with_reducible refine Calls.mono (HST2.o _ ?_) ?_));(focus(exact gw));rintro e5 w5 ⟨rfl,hg5⟩;(have HG5:=hY hg5);clear hg5)
    have hE:=HE.o;rw[HN0.o HR.o] at hE;exact bodyPost_ret (v:=.tuple #[.slice none 0 0,.int .i64 ((k:Int)+1),.int .i64 r1]) (by simp[results,Tryz.results11,go_sem]) rfl ⟨HG.o.trans ((Grew.trans gw HG5.o).trans gw),.inl ⟨by rw[hE.1];exact HR.o,by rw[hE.1,hE.2.1];rfl⟩⟩
  ·obtain rfl:k=p.length:=by omega
   have hE:=HE.o;rw[List.drop_length,Gr.stepsE] at hE;have HE9:=hY hE;clear hE;obtain⟨lc,ho,hn,hso⟩:=HO.o (by omega);have HO9:=hY ho;have HN9:=hY hn;have HSO:=hY hso;obtain⟨a9,cap9,rfl,-,-⟩:=HA.o.openC;clear ho hn hso;go_wp2;exact bodyPost_ret (v:=.tuple #[.slice a9 lk.length cap9,.int .i64 0,.int .i64 0]) (by simp[results,Tryz.results11,go_sem]) rfl ⟨HG.o.trans gw,.inr ⟨HE9.o.1,_,lc,lk,rfl,HO9.o.grew gw,HN9.o.grew gw,HE9.o.2.2.symm,HSO.o,HSM.o⟩⟩
theorem planApply_any(v vp:Value)(l:List Gr.Nd)(p:List Gr.Stp)(w:World)(hv:NodesAt w v l)(hs:Small l)(hp:StepsAt w vp p)(hps:∀s∈p,smallS s): Calls Tryz.prog 11 #[v,vp] w (ApplyPost (Gr.applyE checkR l p) w):=by
 by_cases h:checkR l≠0∨p.length<1∨6<p.length
 ·exact planApply_bad v vp l p w hv hs hp h
 ·have hc:checkR l=0:=Classical.byContradiction fun q=>h (.inl q)
  exact planApply_ok v vp l p w hv hs hp hps hc (by omega) (by omega)
def upI:Nat→List Int
 | 0=>[]
 | k+1=>upI k++[(k:Int)]
theorem upI_len:∀k,(upI k).length=k
 | 0=>rfl
 | k+1=>by rw[upI,List.length_append,upI_len k];rfl
theorem remapAll_any(w:World): Calls Tryz.prog 221 #[] w fun e w'=>∃v,e = .returned v∧OwnAt w.heap.size 3 1 encN w' v (upI 8)∧Grew w w':=by
 go_enter Tryz.func221,Tryz.ntmps221;go_wp2
 go_loopg [1,3] 8 (fun gg s1 s3 wr=>∃k:Nat,k≤8∧8-k≤gg∧s3 = .int .i64 k∧Hid (Grew w wr)∧Hid (OwnAt w.heap.size 3 1 encN wr s1 (upI k)))
 case atStart=>exact⟨0,by omega,by omega,rfl,hY (Grew.refl _),hY (OwnAt.nil _)⟩
 case round =>
  obtain⟨k,hk,hgg,rfl,HG,HO⟩:=hrel;rename World=>wa;by_cases hlt:k<8
  ·have hb:(k:Int)<8:=by omega
   have hul:=upI_len k
   go_wp2_with (at_builtin;go_loud (refine wpList_ownK (w0:=w) rfl (.tmp 6) (.tmp 8) 43 _ _ _ _ [(k:Int)] rfl Tryz.underlying43 infoI_P rfl (by decide) encN_len encN_oneP rfl (OwnAt.grew HO.o gw) (HG.o.trans gw) rfl (int_atP _ _ _ _ rfl (by simp[go_sem])) (by simp;omega) (by decide) (by simp) ?_);intro v7 W7 hA;(have HA7:=hY hA);clear hA)
   go_roundg (8-(k+1))
   case measure=>omega
   case rel=>exact⟨k+1,by omega,by omega,by go_num,hY HA7.o.1,hY HA7.o.2.1⟩
  ·obtain rfl:k=8:=by omega
   have hb:¬((8:Int)<8):=by omega
   go_wp2;go_ret;exact⟨_,rfl,HO.o.grew gw,HG.o.trans gw⟩
def remS(m:List Tab.En)(s:Gr.Stp): List Tab.En:=if s.kind=1∧s.reset=true∨s.kind=3∨s.kind=2 then m.filter (fun x=> !ofP s.nd.id (upI 8) x) else m
theorem remS_ok{m:List Tab.En}(h:OkT m)(s:Gr.Stp): OkT (remS m s):=by
 unfold remS;split
 ·exact h.filter _
 ·exact h
theorem rows_undrew{α:Type}{k:Nat}{enc:α→List Value}{A:World}{R:Array Obj}{n:Nat}{v:Value}{l:List α}(h:RowsAt k enc (A.drew.more R n) v l): RowsAt k enc (A.more R n) v l:=by
 obtain⟨a,cap,rfl,hm,hx⟩:=h;exact⟨a,cap,rfl,hm,hx⟩
def RemPost(w0 W:World)(t b n:Nat)(m:List Tab.En)(e:Ending)(W':World): Prop:=∃r:Int,e = .returned (.int .i64 r)∧TableAt W' t b n m∧Grew w0 W'∧Keep b W W'
theorem RemPost.same{w0 W W':World}{t b n:Nat}{m:List Tab.En}(hT:TableAt W t b n m)(hg:Grew w0 W)(g:Grew W W')(r:Int): RemPost w0 W t b n m (.returned (.int .i64 r)) W':=⟨r,rfl,hT.grew g,hg.trans g,Keep.ofGrew g⟩
theorem remap_no(w0 W:World)(t b n:Nat)(m:List Tab.En)(hT:TableAt W t b n m)(hu:OkT m)(hg:Grew w0 W)(hb:w0.heap.size≤b)(kd id kind:Int)(af:Option Addr)(nf cf:Nat)(ap:Option Addr)(np cp:Nat)(par r0 r1 r2 r3 r4 r5 r6 r7:Int)(rs:Bool)(h:kd<1∨5<kd∨kd=1∧rs=false∨kd=4∨kd=5):
  Calls Tryz.prog 193 #[.pointer (some ⟨t,0,none⟩),.agg #[.int .i64 kd,.int .i64 id,.int .i64 kind,.slice af nf cf,.slice ap np cp,.int .i64 par,.int .i64 r0,.int .i64 r1,.int .i64 r2,.int .i64 r3,.int .i64 r4,.int .i64 r5,.int .i64 r6,.int .i64 r7,.bool rs]] W (RemPost w0 W t b n m):=by
 have HT:=hY hT;have HG:=hY hg;clear hT hg hu hb;rcases h with h|h|⟨rfl,rfl⟩|rfl|rfl
 ·go_enter Tryz.func193,Tryz.ntmps193;go_wp2;go_ret;exact RemPost.same HT.o HG.o gw _
 ·have h1:¬(kd<1):=by omega
  go_enter Tryz.func193,Tryz.ntmps193;go_wp2;go_ret;exact RemPost.same HT.o HG.o gw _
 all_goals
  go_enter Tryz.func193,Tryz.ntmps193;go_wp2;go_ret;exact RemPost.same HT.o HG.o gw _
theorem remap_yes(w0 W:World)(t b n:Nat)(m:List Tab.En)(hT:TableAt W t b n m)(hu:OkT m)(hg:Grew w0 W)(hb:w0.heap.size≤b)(kd id kind:Int)(af:Option Addr)(nf cf:Nat)(ap:Option Addr)(np cp:Nat)(par r0 r1 r2 r3 r4 r5 r6 r7:Int)(rs:Bool)(h:kd=1∧rs=true∨kd=2∨kd=3):
  Calls Tryz.prog 193 #[.pointer (some ⟨t,0,none⟩),.agg #[.int .i64 kd,.int .i64 id,.int .i64 kind,.slice af nf cf,.slice ap np cp,.int .i64 par,.int .i64 r0,.int .i64 r1,.int .i64 r2,.int .i64 r3,.int .i64 r4,.int .i64 r5,.int .i64 r6,.int .i64 r7,.bool rs]] W (RemPost w0 W t b n (m.filter fun x=> !ofP id (upI 8) x)):=by
 have HD:=hY fun W2 (g:Grew W W2) vg hgs=>tabDrop_any w0 W2 t b n m (hT.grew g) hu (hg.trans g) hb id (upI 8) vg hgs
 have HAL:=hY fun W2=>remapAll_any W2
 have HG:=hY hg;clear hT hg hu hb;rcases h with ⟨rfl,rfl⟩|rfl|rfl
 all_goals
  go_enter Tryz.func193,Tryz.ntmps193
  go_upto_region 6 with fail
  refine wp_region_noPanic ?_
  go_region_law (first
   | (go_simp;go_at_call 221;refine(HAL.o _).mono ?_;rintro e1 w1 ⟨v1,rfl,ho1,R1,n1,rfl⟩;obtain⟨av,cv,rfl⟩:=(OwnAt.rows ho1 encN_len).len;(have HO1:=hY (OwnAt.rows ho1 encN_len));clear ho1)
   | (go_simp;go_at_call 220;((with_reducible refine Calls.mono (HD.o _ ?_ _ ?_) ?_));(focus(exact gw));(focus(first|exact rows_undrew HO1.o|exact HO1.o.grew gw));rintro e2 w2 ⟨rfl,hT2,hg2,hk2⟩;(have HT2:=hY hT2);(have HG2:=hY hg2);(have HK2:=hY hk2);clear hT2 hg2 hk2))
  all_goals
   refine NoPanic.normal ?_;go_wp2;go_ret;exact⟨_,rfl,HT2.o,HG2.o,(Keep.ofGrew gw).trans HK2.o⟩
theorem remapStep_any(w0 W:World)(t b n:Nat)(m:List Tab.En)(hT:TableAt W t b n m)(hu:OkT m)(hg:Grew w0 W)(hb:w0.heap.size≤b)(c:StC)(s:Gr.Stp)(hst:StepIs W c s): Calls Tryz.prog 193 #[.pointer (some ⟨t,0,none⟩),.agg #[.int .i64 c.kind,.int .i64 c.c.id,.int .i64 c.c.kind,.slice c.c.af c.c.nf c.c.cf,.slice c.c.ap c.c.np c.c.cp,.int .i64 c.c.par,.int .i64 c.c.r0,.int .i64 c.c.r1,.int .i64 c.c.r2,.int .i64 c.c.r3,.int .i64 c.c.r4,.int .i64 c.c.r5,.int .i64 c.c.r6,.int .i64 c.c.r7,.bool c.reset]] W (RemPost w0 W t b n (remS m s)):=by
 have hk:=hst.kind;have hr:=hst.reset;have hi:=hst.nd.id;obtain⟨kd,⟨id,kind,af,nf,cf,ap,np,cp,par,r0,r1,r2,r3,r4,r5,r6,r7⟩,rs⟩:=c;simp only at hk hr hi;unfold remS;rw[hk,hr,hi];by_cases h:kd=1∧rs=true∨kd=3∨kd=2
 ·rw[if_pos h];exact remap_yes w0 W t b n m hT hu hg hb kd id kind af nf cf ap np cp par r0 r1 r2 r3 r4 r5 r6 r7 rs (by rcases h with h|h|h<;>simp[h])
 ·rw[if_neg h];refine remap_no w0 W t b n m hT hu hg hb kd id kind af nf cf ap np cp par r0 r1 r2 r3 r4 r5 r6 r7 rs ?_;simp only[not_or,not_and,Bool.not_eq_true] at h;by_cases h1:kd=1
  ·exact .inr (.inr (.inl ⟨h1,h.1 h1⟩))
  ·omega
def remL(m:List Tab.En)(p:List Gr.Stp): List Tab.En:=p.foldl remS m
theorem remL_take{m:List Tab.En}{p:List Gr.Stp}{k:Nat}(hk:k<p.length): remL m (p.take (k+1))=remS (remL m (p.take k)) p[k]:=by
 unfold remL;rw[List.take_succ_eq_append_getElem hk,List.foldl_append];rfl
theorem remL_ok{m:List Tab.En}(h:OkT m): ∀p:List Gr.Stp,OkT (remL m p)
 | []=>h
 |s::p=>by
  unfold remL;rw[List.foldl_cons];exact remL_ok (remS_ok h s) p
def RemapPost(r:Int×Nat×List Gr.Nd)(w0 W:World)(t b n:Nat)(m:List Tab.En)(p:List Gr.Stp)(e:Ending)(W':World): Prop:=Grew w0 W'∧Keep b W W'∧((r.1≠0∧e = .returned (.tuple #[.slice none 0 0,.int .i64 (r.2.1:Int),.int .i64 r.1]))∨(r.1=0∧TableAt W' t b n (remL m p)∧∃v lc l',e = .returned (.tuple #[v,.int .i64 0,.int .i64 0])∧NodesOwn W.heap.size W' v lc∧NodesIn W.heap.size W' lc l'∧l'.Perm r.2.2∧(l'.Pairwise fun a b=>a.id≤b.id)∧Small l'))
theorem apply_zero{l9:List Gr.Nd}{k:Nat}{w w':World}{e:Ending}(h:ApplyPost ((0,k,l9):Int×Nat×List Gr.Nd) w e w'): Grew w w'∧∃v lc l',e = .returned (.tuple #[v,.int .i64 0,.int .i64 0])∧NodesOwn w.heap.size w' v lc∧NodesIn w.heap.size w' lc l'∧l'.Perm l9∧(l'.Pairwise fun a b=>a.id≤b.id)∧Small l':=by
 rcases h with ⟨g,⟨h1,-⟩|⟨-,h2⟩⟩
 ·exact absurd rfl h1
 ·exact⟨g,h2⟩
theorem apply_not{r:Int×Nat×List Gr.Nd}{w w':World}{e:Ending}(hr:r.1≠0)(h:ApplyPost r w e w'): e = .returned (.tuple #[.slice none 0 0,.int .i64 (r.2.1:Int),.int .i64 r.1])∧Grew w w':=by
 rcases h with ⟨g,⟨-,h2⟩|⟨h1,-⟩⟩
 ·exact⟨h2,g⟩
 ·exact absurd h1 hr
theorem NodesIn.keepB{base b:Nat}{w w':World}{lc:List NdC}{l:List Gr.Nd}{v:Value}(h:NodesIn base w lc l)(ho:NodesOwn base w v lc)(hk:Keep b w w')(hb:∀(cs:Array Value) (t:TypeId),w.heap[b]? ≠ some (.cells cs t)): NodesIn base w' lc l∧NodesOwn base w' v lc:=by
 have hq:∀(q:Nat) (cs:Array Value) (t:TypeId),w.heap[q]? = some (.cells cs t)→w'.heap[q]? = w.heap[q]? :=fun q cs t hc=>hk.2 q (heap_lt hc) fun e=>hb cs t (e▸hc)
 refine⟨?_,?_⟩
 ·refine Rel.mono (fun c n h3=>?_) h;obtain⟨h1,h2⟩:=h3;have h3:OwnsNd base w' c n:=h2.toN fun q cs t hc _ _=>hq q cs t hc
  exact⟨h3.is h1,h3⟩
 ·refine OwnAt.same ho fun q hq2=>?_
  obtain⟨_,cs,hc⟩:=OwnAt.block ho hq2;exact hq q cs _ hc
theorem remapApply_any(w0 W:World)(t b n:Nat)(m:List Tab.En)(hT:TableAt W t b n m)(hu:OkT m)(hg:Grew w0 W)(hb:w0.heap.size≤b)(v vp:Value)(l:List Gr.Nd)(p:List Gr.Stp)(hv:NodesAt W v l)(hs:Small l)(hp:StepsAt w0 vp p)(hps:∀s∈p,smallS s):
  Calls Tryz.prog 160 #[.pointer (some ⟨t,0,none⟩),v,vp] W (RemapPost (Gr.applyE checkR l p) w0 W t b n m p):=by
 have HAP:=hY fun W2 (g:Grew W W2)=>planApply_any v vp l p W2 (hv.grew g) hs (hp.grew (hg.trans g)) hps
 have HT:=hY hT;have HU:=hY hu;have HG:=hY hg;have HB:=hY hb;have HP:=hY hp;obtain⟨a,cap,rfl,hm,-⟩:=hv.openC;obtain⟨a2,cap2,rfl,hm2,-⟩:=hp.openC;clear hT hu hg hb hv hs hp hps;generalize Gr.applyE checkR l p=r at *;obtain⟨r1,k1,l9⟩:=r;by_cases hr:r1=0
 case neg =>
  have HAP2:=hY fun W2 (g:Grew W W2)=>(HAP.o W2 g).mono fun e w' h=>apply_not (r:=(r1,k1,l9)) hr h
  simp only at HAP2;have hb2:(r1 != 0)=true:=by rw[bne_iff_ne];exact hr
  have HR:=hY hr;clear HAP hr;go_enter Tryz.func160,Tryz.ntmps160
  go_wp2_with (go_at_call 11;((with_reducible refine Calls.mono (HAP2.o _ ?_) ?_));(focus(exact gw));rintro e5 w5 ⟨rfl,hg5⟩;(have HG5:=hY hg5);clear hg5)
  exact bodyPost_ret (v:=.tuple #[.slice none 0 0,.int .i64 (k1:Int),.int .i64 r1]) (by simp[results,Tryz.results160,go_sem]) rfl ⟨HG.o.trans ((Grew.trans gw HG5.o).trans gw),Keep.ofGrew ((Grew.trans gw HG5.o).trans gw),.inl ⟨HR.o,rfl⟩⟩
 subst hr;have HAP2:=hY fun W2 (g:Grew W W2)=>(HAP.o W2 g).mono fun e w' h=>apply_zero h
 clear HAP;go_enter Tryz.func160,Tryz.ntmps160
 go_wp2_with (go_at_call 11;((with_reducible refine Calls.mono (HAP2.o _ ?_) ?_));(focus(exact gw));rintro e5 w5 ⟨hg5,v5,lc5,l5,rfl,ho5,hn5,hp5,hs5,hsm5⟩;obtain⟨a5,cp5,rfl⟩:=(OwnAt.rows ho5 encNd_len).len;(have HG5:=hY hg5);(have HO5:=hY ho5);(have HN5:=hY hn5);(have HP5:=hY hp5);(have HS5:=hY hs5);(have HSM5:=hY hsm5);clear hg5 ho5 hn5 hp5 hs5 hsm5)
 have HW5:Hid (Grew W w5):=hY (Grew.trans gw HG5.o);have hbase:W.heap.size≤W.heap.size:=Nat.le_refl _;have HT5:=hY (HT.o.grew HW5.o)
 go_loopg [29] p.length (fun gg s29 wr=>∃k:Nat,k≤p.length∧p.length-k≤gg∧s29 = .int .i64 k∧Hid (TableAt wr t b n (remL m (p.take k)))∧Hid (Grew w0 wr)∧Hid (Keep b w5 wr))
 case atStart=>exact⟨0,by omega,by omega,rfl,hY (HT5.o.grew gw),hY ((HG.o.trans HW5.o).trans gw),hY (Keep.ofGrew gw)⟩
 case round =>
  obtain⟨k,hk,hgg,rfl,HTK,HGK,HKK⟩:=hrel;rename World=>wa;by_cases hlt:k<p.length
  ·obtain⟨a',cap',e,-,hx⟩:=(HP.o.grew HGK.o).openC;cases e;obtain⟨bq,off,c,rfl,hbq,hn,c0,c1,c2,c3,c4,c5,c6,c7,c8,c9,c10,c11,c12,c13,c14⟩:=hx k hlt;have HRS:=hY fun W2 (g:Grew wa W2)=>remapStep_any w0 W2 t b n _ (HTK.o.grew g) (remL_ok HU.o _) (HGK.o.trans g) HB.o c p[k] (hn.grew g)
   have HRL:=hY (remL_take (m:=m) hlt);clear hx hn;obtain⟨kd,⟨id,kind,af,nf,cf,ap,np,cp,par,r0,q1,q2,q3,q4,q5,q6,q7⟩,rs⟩:=c;simp only at c0 c1 c2 c3 c4 c5 c6 c7 c8 c9 c10 c11 c12 c13 c14 HRS
   go_wp2_with (go_at_call 193;((with_reducible refine Calls.mono (HRS.o _ ?_) ?_));(focus(exact gw));rintro e6 w6 ⟨r6,rfl,hT6,hg6,hk6⟩;(have HT6:=hY hT6);(have HG6:=hY hg6);(have HK6:=hY hk6);clear hT6 hg6 hk6)
   go_roundg (p.length-(k+1))
   case measure=>omega
   case rel=>exact⟨k+1,by omega,by omega,by go_num,hY (by rw[HRL.o];exact HT6.o.grew gw),hY (HG6.o.trans gw),hY ((HKK.o.trans ((Keep.ofGrew gw).trans HK6.o)).trans (Keep.ofGrew gw))⟩
  ·obtain rfl:k=p.length:=by omega
   have hT9:=HTK.o;rw[List.take_length] at hT9;have HT9:=hY hT9;obtain⟨hn9,ho9⟩:=NodesIn.keepB HN5.o HO5.o HKK.o (fun cs ty q=>TabAt.nocells HT5.o.2 _ _ _ q);clear hT9;have hs5:w5.heap.size≤wa.heap.size:=HKK.o.1;have HN9:=hY hn9;have HO9:=hY ho9;clear hn9 ho9;go_wp2;refine bodyPost_ret (v:=.tuple #[.slice a5 lc5.length cp5,.int .i64 0,.int .i64 0]) (by simp[results,Tryz.results160,go_sem]) rfl ⟨HGK.o.trans gw,((Keep.ofGrew HW5.o).trans HKK.o).trans (Keep.ofGrew gw),.inr ⟨rfl,HT9.o.grew gw,_,lc5,l5,rfl,OwnAt.grew HO9.o gw,NodesIn.grew HN9.o gw,HP5.o,HS5.o,HSM5.o⟩⟩
theorem applyE_ok{l:List Gr.Nd}{p:List Gr.Stp}(h:(Gr.applyE checkR l p).1=0): checkR (Gr.applyE checkR l p).2.2=0:=by
 unfold Gr.applyE at h ⊢;by_cases h1:checkR l≠0
 ·rw[if_pos h1] at h;exact absurd h (by decide)
 ·rw[if_neg h1] at h ⊢;split at h
  ·exact absurd h (by decide)
  ·rename_i h2
   rw[if_neg h2];exact Gr.stepsE_ok p 0 (by simpa using h1) h
noncomputable def planE(g:List Gr.Nd)(p:List Gr.Stp): Int×Nat×List Gr.Nd:=if p=[] then (0,0,g) else Gr.applyE checkR g p
theorem planE_ok{g:List Gr.Nd}(h:Gr.RightR g){p:List Gr.Stp}(h0:(planE g p).1=0): Gr.RightR (planE g p).2.2:=by
 unfold planE at h0 ⊢;split
 ·exact h
 ·rename_i hp
  rw[if_neg hp] at h0;exact checkR_right (applyE_ok h0)
end Go.Proofs.YtipgfjihdglocaaGreat
