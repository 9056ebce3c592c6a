import Derived.Test.YtipgfjihdglocaaGreatCw28
set_option linter.unusedSimpArgs false
set_option linter.unusedVariables false
set_option maxRecDepth 100000
set_option maxHeartbeats 64000000
namespace Go.Proofs.YtipgfjihdglocaaGreat
open Go.RowKit Ga
def OkRoute(y:Gr.Nd): Prop:=∀g∈y.route,0≤g∧g<y.par
theorem enc_route(c:NdC)(g:Nat)(h:g<8): (encNd c).toArray[5+g]? = some (.int .i64 ([c.r0,c.r1,c.r2,c.r3,c.r4,c.r5,c.r6,c.r7]:List Int)[g]):=by
 rcases (show g=0∨g=1∨g=2∨g=3∨g=4∨g=5∨g=6∨g=7 by omega) with rfl|rfl|rfl|rfl|rfl|rfl|rfl|rfl<;>rfl
theorem chk_p2(l:List Gr.Nd)(w W:World)(v:Value)(k tx:Nat)(src:Int)(c:NdC)(y:Gr.Nd)(Q:Exit→Act→World→Prop)(a0:Act)
  (h0:At11 w v k src tx (encNd c).toArray a0 W) (hn:NodeIs W c y)
  (hbad:¬OkRoute y→∀a' w',Ret11 w 10 a' w'→Q .ret a' w')
  (hnext:OkRoute y→∀a' w',Grew W w'→At11 w v k src tx (encNd c).toArray a' w'→Code.wp Tryz.prog (tail11 15) Q a' w') :
  Code.wp Tryz.prog (tail11 10) Q a0 W:=by
 have h0':=h0;obtain⟨hfr,h00,h03,h04,h05,hg,hbx⟩:=h0;obtain⟨u,hu⟩:∃u:Nat→Value,u=fun i=>a0.tmps.getD i undef:=⟨_,rfl⟩
 rw[←hu] at hfr;have u0:u 0=_:=(congrFun hu 0).trans h00;have u3:u 3=_:=(congrFun hu 3).trans h03;have u4:u 4=_:=(congrFun hu 4).trans h04;have u5:u 5=_:=(congrFun hu 5).trans h05;clear hu h00 h03 h04 h0' h05;subst hfr
 conv=>arg 2;whnf
 unfold frameR;rw[u0,u3,u4,u5];have hrt:=hn.route;have hpar:=hn.par;have HRT:=hY hrt;have HPAR:=hY hpar;have HG:=hY hg;have HBX:=hY hbx;have HBAD:=hY hbad;have HNX:=hY hnext;have c4:=cell_of (o:=4) hbx;have px:=Pre.mk (heap_lt hbx);simp[encNd] at c4;clear hrt hpar hg hbx hbad hnext hn u0 u3 u4 u5;go_wp2
 go_loopg [6] 8 (fun gg s6 wr=>∃g:Nat,g≤8∧8-g≤gg∧s6 = .int .i64 g∧Hid (Grew W wr)∧Hid (∀j (hj:j<y.route.length),j<g→0≤y.route[j]∧y.route[j]<y.par))
 case atStart=>exact⟨0,by omega,by omega,rfl,hY gw,hY fun j _ h=>by omega⟩
 case round =>
  obtain⟨g,hg8,hgg,rfl,HGR,HNO⟩:=hrel;have hbx2:=grew_heap HGR.o HBX.o;have d4:=cell_of (o:=4) hbx2;have px2:=Pre.mk (heap_lt hbx2);simp[encNd] at d4;have HBX2:=hY hbx2;by_cases hlt:g<8
  ·have dg:=cell_of (o:=5+g) hbx2;rw[enc_route c g hlt] at dg;have hrl:g<y.route.length:=by rw[HRT.o];exact hlt
   have hre:y.route[g]=([c.r0,c.r1,c.r2,c.r3,c.r4,c.r5,c.r6,c.r7]:List Int)[g]:=by
    have:=HRT.o;simp only[this]
   have HRE:=hY hre;clear hre hbx2;generalize ([c.r0,c.r1,c.r2,c.r3,c.r4,c.r5,c.r6,c.r7]:List Int)[g]=x at *;have HPA2:=hY (HPAR.o);clear c4;generalize hcp:c.par=par at *;have HCP:=hY hcp;clear hcp;by_cases x0:x<0
   ·go_upto_region 13 with fail
    go_quiet (fail)
    go_wp2;refine HBAD.o (fun h=>?_) _ _ ⟨rfl,rfl,HG.o.trans (HGR.o.trans gw)⟩;have:=(h _ (List.getElem_mem hrl)).1;rw[HRE.o] at this;omega
   ·by_cases xp:par≤x
    ·go_upto_region 13 with fail
     go_quiet (fail)
     go_wp2;refine HBAD.o (fun h=>?_) _ _ ⟨rfl,rfl,HG.o.trans (HGR.o.trans gw)⟩;have:=(h _ (List.getElem_mem hrl)).2;rw[HRE.o,HPA2.o] at this;omega
    ·go_upto_region 13 with fail
     go_quiet (fail)
     go_wp2
     go_roundg (8-(g+1))
     case measure=>omega
     case rel=>exact⟨g+1,by omega,by omega,by go_num,hY (HGR.o.trans gw),hY fun j hj h=>by
      rcases Nat.lt_or_ge j g with h1|h1
      ·exact HNO.o j hj h1
      ·obtain rfl:j=g:=by omega
       rw[HRE.o,HPA2.o]
       exact⟨by omega,by omega⟩⟩
  ·obtain rfl:g=8:=by omega
   have hok:OkRoute y:=fun x hx=>by
    obtain⟨j,hj,rfl⟩:=List.mem_iff_getElem.1 hx;exact HNO.o j hj (by rw[HRT.o] at hj;exact hj)
   have HOK:=hY hok;clear hok hbx2
   go_upto_if 75 with fail
   iterate 4 go_step
   refine HNX.o HOK.o _ _ HGR.o ?_;exact⟨rfl,rfl,rfl,rfl,rfl,HG.o.trans HGR.o,HBX2.o⟩
def OkFroms(y:Gr.Nd): Prop:=(y.kind=0→y.frm.length=0)∧(y.kind=1→y.frm.length=1)∧(y.kind=2→y.frm.length≠0)
def OkProg(y:Gr.Nd): Prop:=(y.kind=1→Vm.safe y.prog=true)∧(y.kind≠1→y.prog.length=0)
theorem chk_p3(l:List Gr.Nd)(w W:World)(v:Value)(k tx:Nat)(src:Int)(c:NdC)(y:Gr.Nd)(Q:Exit→Act→World→Prop)(a0:Act)
  (h0:At11 w v k src tx (encNd c).toArray a0 W) (hn:NodeIs W c y) (hk02:0≤y.kind∧y.kind≤2) (hsrc:0≤src∧src≤100)
  (hbad:¬OkFroms y→∀a' w',Ret11 w 10 a' w'→Q .ret a' w')
  (hnext:OkFroms y→∀a' w',Grew W w'→At11 w v k (src+if y.kind=0 then 1 else 0) tx (encNd c).toArray a' w'→Code.wp Tryz.prog (tail11 19) Q a' w') :
  Code.wp Tryz.prog (tail11 15) Q a0 W:=by
 have h0':=h0;obtain⟨hfr,h00,h03,h04,h05,hg,hbx⟩:=h0;obtain⟨u,hu⟩:∃u:Nat→Value,u=fun i=>a0.tmps.getD i undef:=⟨_,rfl⟩
 rw[←hu] at hfr;have u0:u 0=_:=(congrFun hu 0).trans h00;have u3:u 3=_:=(congrFun hu 3).trans h03;have u4:u 4=_:=(congrFun hu 4).trans h04;have u5:u 5=_:=(congrFun hu 5).trans h05;clear hu h00 h03 h04 h0' h05;subst hfr
 conv=>arg 2;whnf
 unfold frameR;rw[u0,u3,u4,u5];obtain⟨id,kind,af,cf,ap,cp,par,r0,r1,r2,r3,r4,r5,r6,r7,rfl⟩:=hn.lit;have ek:=hn.kind;simp only at ek;have EK:=hY ek;have HG:=hY hg;have HBX:=hY hbx;have HBAD:=hY hbad;have HNX:=hY hnext;have HN:=hY hn;have c1:=cell_of (o:=1) hbx;have c2:=cell_of (o:=2) hbx;have c3:=cell_of (o:=3) hbx;have px:=Pre.mk (heap_lt hbx);simp[encNd] at c1 c2 c3;obtain⟨k0,k2⟩:=hk02;rw[ek] at k0 k2;obtain⟨s0,s1⟩:=hsrc;generalize efl:y.frm.length=fl at *;have EFL:=hY efl;clear ek hg hbx hbad hnext hn u0 u3 u4 u5 efl;have hkc:kind=0∨kind=1∨kind=2:=by omega
 clear k0 k2;rcases hkc with rfl|rfl|rfl
 ·by_cases f0:fl=0
  ·subst f0;have hok:OkFroms y:=⟨fun _=>EFL.o,(fun h=>by rw[EK.o] at h;cases h),(fun h=>by rw[EK.o] at h;cases h)⟩;have HOK:=hY hok;have hss:(src+if y.kind=0 then 1 else 0)=src+1:=by rw[if_pos EK.o]
   rw[hss] at HNX;clear hok hss
   go_upto_if 127 with fail
   iterate 4 go_step
   refine HNX.o HOK.o _ _ (Grew.refl _) ?_;exact⟨rfl,rfl,rfl,rfl,rfl,HG.o,HBX.o⟩
  ·have f0b:((fl:Int)==0)=false:=by simp;omega
   have f0c:((fl:Int) != 0)=true:=by rw[bne_iff_ne];omega
   have F0:=hY f0;clear f0;have hno:¬OkFroms y:=fun h=>F0.out (EFL.o.symm.trans (h.1 EK.o))
   have HNO:=hY hno;clear hno;go_wp2;exact HBAD.o HNO.o _ _ ⟨rfl,rfl,HG.o⟩
 ·by_cases f0:fl=1
  ·subst f0;have hok:OkFroms y:=⟨(fun h=>by rw[EK.o] at h;cases h),fun _=>EFL.o,(fun h=>by rw[EK.o] at h;cases h)⟩;have HOK:=hY hok;have hss:(src+if y.kind=0 then 1 else 0)=src:=by rw[if_neg (by rw[EK.o];decide)];omega
   rw[hss] at HNX;clear hok hss
   go_upto_if 127 with fail
   iterate 4 go_step
   refine HNX.o HOK.o _ _ (Grew.refl _) ?_;exact⟨rfl,rfl,rfl,rfl,rfl,HG.o,HBX.o⟩
  ·have f0b:((fl:Int)==1)=false:=by simp;omega
   have f0c:((fl:Int) != 1)=true:=by rw[bne_iff_ne];omega
   have F0:=hY f0;clear f0;have hno:¬OkFroms y:=fun h=>F0.out (EFL.o.symm.trans (h.2.1 EK.o))
   have HNO:=hY hno;clear hno;go_wp2;exact HBAD.o HNO.o _ _ ⟨rfl,rfl,HG.o⟩
 ·by_cases f0:fl=0
  ·subst f0;have hno:¬OkFroms y:=fun h=>h.2.2 EK.o EFL.o
   have HNO:=hY hno;clear hno;go_wp2;exact HBAD.o HNO.o _ _ ⟨rfl,rfl,HG.o⟩
  ·have f0b:((fl:Int)==0)=false:=by simp;omega
   have F0:=hY f0;clear f0;have hok:OkFroms y:=⟨(fun h=>by rw[EK.o] at h;cases h),(fun h=>by rw[EK.o] at h;cases h),fun _=>by rw[EFL.o];exact F0.out⟩;have HOK:=hY hok;have hss:(src+if y.kind=0 then 1 else 0)=src:=by rw[if_neg (by rw[EK.o];decide)];omega
   rw[hss] at HNX;clear hok hss
   go_upto_if 127 with fail
   iterate 4 go_step
   refine HNX.o HOK.o _ _ (Grew.refl _) ?_;exact⟨rfl,rfl,rfl,rfl,rfl,HG.o,HBX.o⟩
theorem field_known(d:Value)(n1 n2:Int)(u1 u2 b:Bool)(W:World): (Instr.field 191 (.agg #[d,.int .i64 n1,.int .i64 n2,.bool u1,.bool u2,.bool b]) 4).run Tryz.prog W = .ok (.bool b) W:=by
 kernel_rfl
theorem chk_p4(l:List Gr.Nd)(w W:World)(v:Value)(k tx:Nat)(src:Int)(c:NdC)(y:Gr.Nd)(Q:Exit→Act→World→Prop)(a0:Act)
  (h0:At11 w v k src tx (encNd c).toArray a0 W) (hn:NodeIs W c y)
  (hbad:¬OkProg y→∀a' w',Ret11 w 10 a' w'→Q .ret a' w')
  (hnext:OkProg y→∀a' w',Grew W w'→At11 w v k src tx (encNd c).toArray a' w'→Code.wp Tryz.prog (tail11 21) Q a' w') :
  Code.wp Tryz.prog (tail11 19) Q a0 W:=by
 have h0':=h0;obtain⟨hfr,h00,h03,h04,h05,hg,hbx⟩:=h0;obtain⟨u,hu⟩:∃u:Nat→Value,u=fun i=>a0.tmps.getD i undef:=⟨_,rfl⟩
 rw[←hu] at hfr;have u0:u 0=_:=(congrFun hu 0).trans h00;have u3:u 3=_:=(congrFun hu 3).trans h03;have u4:u 4=_:=(congrFun hu 4).trans h04;have u5:u 5=_:=(congrFun hu 5).trans h05;clear hu h00 h03 h04 h0' h05;subst hfr
 conv=>arg 2;whnf
 unfold frameR;rw[u0,u3,u4,u5];obtain⟨id,kind,af,cf,ap,cp,par,r0,r1,r2,r3,r4,r5,r6,r7,rfl⟩:=hn.lit;have ek:=hn.kind;simp only at ek;have EK:=hY ek;have HG:=hY hg;have HBX:=hY hbx;have HBAD:=hY hbad;have HNX:=hY hnext;have HN:=hY hn;have c1:=cell_of (o:=1) hbx;have c2:=cell_of (o:=2) hbx;have c3:=cell_of (o:=3) hbx;have px:=Pre.mk (heap_lt hbx);simp[encNd] at c1 c2 c3;have HC:Hid (∀W',Grew W W'→Calls Tryz.prog 120 #[.slice ap y.prog.length cp] W' (RefCheck y.prog W')):=hY fun W' (g:Grew W W')=>refCheck_any _ y.prog W' (hn.p.grew g)
 have hfd:=field_known;generalize epl:y.prog.length=pl at *;have EPL:=hY epl;generalize esf:Vm.safe y.prog=sf at *;have ESF:=hY esf;clear ek hg hbx hbad hnext hn u0 u3 u4 u5 epl;by_cases k1:kind=1
 ·subst k1
  cases sf with
  |true =>
   have hok:OkProg y:=⟨fun _=>ESF.o,fun h=>absurd EK.o h⟩;have HOK:=hY hok;clear hok esf
   go_upto_if 148 with (go_at_call 120;refine(HC.o _ gw).mono ?_;rintro e w1 ⟨⟨R3,n3,rfl⟩,d5,m1,m2,b1,b2,rfl⟩;rw[ESF.o])
   iterate 4 go_step
   refine HNX.o HOK.o _ _ (Grew.more (Grew.refl _) R3 n3) ?_
   exact⟨rfl,rfl,rfl,rfl,rfl,HG.o.trans gw,grew_heap gw HBX.o⟩
  |false =>
   have hno:¬OkProg y:=fun h=>by have:=h.1 EK.o;rw[ESF.o] at this;cases this
   have HNO:=hY hno;clear hno esf
   go_wp2_with (go_at_call 120;refine(HC.o _ gw).mono ?_;rintro e w1 ⟨⟨R3,n3,rfl⟩,d5,m1,m2,b1,b2,rfl⟩;rw[ESF.o])
   exact HBAD.o HNO.o _ _ ⟨rfl,rfl,HG.o.trans gw⟩
 ·have k1b:(kind==1)=false:=by simpa using k1
  have k1c:(kind != 1)=true:=by rw[bne_iff_ne];exact k1
  have K1:=hY k1;clear k1 esf;by_cases p0:pl=0
  ·subst p0;have hok:OkProg y:=⟨fun h=>absurd (EK.o.symm.trans h) K1.out,fun _=>EPL.o⟩;have HOK:=hY hok;clear hok
   go_upto_if 148 with fail
   iterate 4 go_step
   refine HNX.o HOK.o _ _ (Grew.refl _) ?_;exact⟨rfl,rfl,rfl,rfl,rfl,HG.o,HBX.o⟩
  ·have p0b:((pl:Int) != 0)=true:=by rw[bne_iff_ne];omega
   have hno:¬OkProg y:=fun h=>p0 (EPL.o.symm.trans (h.2 (fun q=>K1.out (EK.o.symm.trans q))))
   have HNO:=hY hno;clear hno p0;go_wp2;exact HBAD.o HNO.o _ _ ⟨rfl,rfl,HG.o⟩
def OkFr1(l:List Gr.Nd)(y:Gr.Nd)(i:Nat)(f:Int): Prop:=(∃j m,Gr.find l f=some j∧l[j]? = some m∧m.kind≠2)∧f∉y.frm.take i
def OkFr(l:List Gr.Nd)(y:Gr.Nd): Prop:=∀i f,y.frm[i]? = some f→OkFr1 l y i f
theorem chk_p5(l:List Gr.Nd)(w W:World)(b off cap:Nat)(k tx:Nat)(src:Int)(c:NdC)(y:Gr.Nd)(Q:Exit→Act→World→Prop)(a0:Act)
  (h0:At11 w (.slice (some ⟨b,off,none⟩) l.length cap) k src tx (encNd c).toArray a0 W) (hn:NodeIs W c y) (hv:NodesAt w (.slice (some ⟨b,off,none⟩) l.length cap) l) (hm:l.length≤1000) (hfl:y.frm.length≤3)
  (hbad:¬OkFr l y→∀a' w',Ret11 w 10 a' w'→Q .ret a' w')
  (hnext:OkFr l y→∀a' w',Grew W w'→At11 w (.slice (some ⟨b,off,none⟩) l.length cap) k src tx (encNd c).toArray a' w'→Q .normal a' w') :
  Code.wp Tryz.prog (tail11 21) Q a0 W:=by
 have h0':=h0;obtain⟨hfr,h00,h03,h04,h05,hg,hbx⟩:=h0;obtain⟨u,hu⟩:∃u:Nat→Value,u=fun i=>a0.tmps.getD i undef:=⟨_,rfl⟩
 rw[←hu] at hfr;have u0:u 0=_:=(congrFun hu 0).trans h00;have u3:u 3=_:=(congrFun hu 3).trans h03;have u4:u 4=_:=(congrFun hu 4).trans h04;have u5:u 5=_:=(congrFun hu 5).trans h05;clear hu h00 h03 h04 h0' h05;subst hfr
 conv=>arg 2;whnf
 unfold frameR;rw[u0,u3,u4,u5];obtain⟨id,kind,af,cf,ap,cp,par,r0,r1,r2,r3,r4,r5,r6,r7,rfl⟩:=hn.lit;have HG:=hY hg;have HBX:=hY hbx;have HBAD:=hY hbad;have HNX:=hY hnext;have HF:=hY hn.f;have HV:=hY (hv.grew hg);have hfc:=hn.fc;have c2:=cell_of (o:=2) hbx;have px:=Pre.mk (heap_lt hbx);simp[encNd] at c2;simp only at hfc;obtain⟨fl,efl⟩:∃fl,fl=y.frm:=⟨_,rfl⟩;have EFL:=hY efl;rw[←efl] at c2 hfc hfl;clear hg hbx hbad hnext hn hv u0 u3 u4 u5 efl;go_wp2
 go_loopg [7] fl.length (fun gg s7 wr=>∃g:Nat,g≤fl.length∧fl.length-g≤gg∧s7 = .int .i64 g∧Hid (Grew W wr)∧Hid (∀j f,fl[j]? = some f→j<g→OkFr1 l y j f))
 case atStart=>exact⟨0,by omega,by omega,rfl,hY gw,hY fun j f _ h=>by omega⟩
 case round =>
  obtain⟨g,hg8,hgg,rfl,HGR,HNO⟩:=hrel;have hbx2:=grew_heap HGR.o HBX.o;have d2:=cell_of (o:=2) hbx2;have px2:=Pre.mk (heap_lt hbx2);simp[encNd] at d2;rw[←EFL.o] at d2;have HBX2:=hY hbx2;clear hbx2 c2;by_cases hlt:g<fl.length
  ·have hrows:IntsAt wr (.slice af fl.length cf) fl:=by
    have:=HF.o.grew HGR.o;simp only[NdC.vf] at this;rw[←EFL.o] at this;exact this
   obtain⟨af',cf',e,-,hx⟩:=ints_open hrows;cases e;obtain⟨bf,offf,rfl,hpf,cx⟩:=hx g hlt;have htk:IntsAt wr (.slice (some ⟨bf,offf,none⟩) g cf) (fl.take g):=RowsAt.take hrows (by omega);obtain⟨av,cv,e,-,hxl⟩:=(HV.o.grew HGR.o).openC;cases e;have hget:y.frm[g]? = some fl[g]:=by rw[←EFL.o];exact List.getElem?_eq_getElem hlt
   have HGET:=hY hget;have HFIND:=hY fun W' (gr:Grew wr W')=>refFind08_any _ l fl[g] W' ((HV.o.grew HGR.o).grew gr)
   have HHAS:=hY fun n=>refHas08_any _ (fl.take g) fl[g] (wr.drewN n) (htk.grew ((Grew.refl wr).drewN n))
   have HETK:=hY (congrArg (List.take g) EFL.o);have hgc:(g:Int)≤(cf:Int):=by omega
   have hgc2:g≤cf:=by omega
   clear hx hget hrows htk;generalize hxx:fl[g]=x at *;have HXX:=hY hxx;clear hxx
   cases hf:Gr.find l x with
   |none =>
    have hi:=findI_none hf;have HI:=hY hi
    have hno:¬OkFr l y:=fun h=>by
     obtain⟨⟨j,m,h1,_⟩,_⟩:=h g x HGET.o;rw[hf] at h1;cases h1
    have HNOT:=hY hno;clear hi hf hno hxl
    go_upto_region 25 with (go_at_call 63;refine(HFIND.o _ gw).mono ?_;rintro e w1 ⟨rfl,hw1⟩;obtain rfl:=hw1.symm;rw[HI.o])
    go_quiet (fail)
    go_wp2
    exact HBAD.o HNOT.o _ _ ⟨rfl,rfl,HG.o.trans (HGR.o.trans gw)⟩
   |some j =>
    obtain⟨hi,hjl⟩:=findI_some hf;have HI:=hY hi;obtain⟨b',off',cm,eb,hpb,hnm,-,dk,-⟩:=hxl j hjl;cases eb;have ekm:=hnm.kind;have hjm:l[j]? = some l[j]:=List.getElem?_eq_getElem hjl;have hj0:decide ((j:Int)<0)=false:=decide_eq_false (by omega);have hj1:(j:Int)<(l.length:Int):=by omega
    have HFJ:=hY hf;have HJM:=hY hjm;clear hi hf hjm hxl hnm;generalize cm.kind=km at *;have HEKM:=hY ekm;clear ekm;by_cases k2:km=2
    ·subst k2
     have hno:¬OkFr l y:=fun h=>by
      obtain⟨⟨j',m,h1,h2,h3⟩,_⟩:=h g x HGET.o;rw[HFJ.o] at h1;cases h1;rw[HJM.o] at h2;cases h2;exact h3 HEKM.o
     have HNOT:=hY hno;clear hno
     go_upto_region 25 with (go_at_call 63;refine(HFIND.o _ gw).mono ?_;rintro e w1 ⟨rfl,hw1⟩;obtain rfl:=hw1.symm;rw[HI.o])
     go_quiet (fail)
     go_wp2;exact HBAD.o HNOT.o _ _ ⟨rfl,rfl,HG.o.trans (HGR.o.trans gw)⟩
    ·have k2b:(km==2)=false:=by simpa using k2
     have K2:=hY k2;clear k2;by_cases hin:x∈fl.take g
     ·have hno:¬OkFr l y:=fun h=>by
       obtain⟨_,h2⟩:=h g x HGET.o;rw[←EFL.o] at h2;exact h2 hin
      have HNOT:=hY hno;have HIN:=hY (decide_eq_true hin);clear hno hin
      go_upto_region 25 with (go_at_call 63;refine(HFIND.o _ gw).mono ?_;rintro e w1 ⟨rfl,hw1⟩;obtain rfl:=hw1.symm;rw[HI.o])
      go_quiet (first|(go_at_call 121;refine Calls.quiet_of_same ((HHAS.o _).mono fun e w' h=>⟨h.1.trans (by rw[HIN.o]),h.2⟩)))
      go_wp2;exact HBAD.o HNOT.o _ _ ⟨rfl,rfl,HG.o.trans (HGR.o.trans gw)⟩
     ·have HIN:=hY (decide_eq_false hin);have HOUT:=hY hin;clear hin
      go_upto_region 25 with (go_at_call 63;refine(HFIND.o _ gw).mono ?_;rintro e w1 ⟨rfl,hw1⟩;obtain rfl:=hw1.symm;rw[HI.o])
      go_quiet (first|(go_at_call 121;refine Calls.quiet_of_same ((HHAS.o _).mono fun e w' h=>⟨h.1.trans (by rw[HIN.o]),h.2⟩)))
      go_wp2
      go_roundg (fl.length-(g+1))
      case measure=>omega
      case rel=>exact⟨g+1,by omega,by omega,by go_num,hY (HGR.o.trans gw),hY fun i f hi h=>by
       rcases Nat.lt_or_ge i g with h1|h1
       ·exact HNO.o i f hi h1
       ·obtain rfl:i=g:=by omega
        rw[List.getElem?_eq_getElem hlt,HXX.o] at hi;cases hi
        exact⟨⟨j,_,HFJ.o,HJM.o,fun q=>K2.out (HEKM.o.symm.trans q)⟩,by rw[←EFL.o];exact HOUT.o⟩⟩
  ·obtain rfl:g=fl.length:=by omega
   have hok:OkFr l y:=fun i f hi=>by
    rw[←EFL.o] at hi;exact HNO.o i f hi (List.getElem?_eq_some_iff.1 hi).1
   have HOK:=hY hok;clear hok
   go_upto_if 153 with fail
   iterate 3 go_step
   refine HNX.o HOK.o _ _ HGR.o ?_;exact⟨rfl,rfl,rfl,rfl,rfl,HG.o.trans HGR.o,HBX2.o⟩
end Go.Proofs.YtipgfjihdglocaaGreat
