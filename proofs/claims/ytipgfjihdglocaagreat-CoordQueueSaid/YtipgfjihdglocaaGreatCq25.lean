import Derived.Test.YtipgfjihdglocaaGreatCq18
import Derived.Test.YtipgfjihdglocaaGreatCq10
import Derived.Test.YtipgfjihdglocaaGreatCq19
import Derived.Test.YtipgfjihdglocaaGreatCq16
import Derived.Lib.AppendStr
import Derived.Test.YtipgfjihdglocaaGreatCq20
set_option linter.unusedSimpArgs false
set_option linter.unusedVariables false
set_option maxRecDepth 100000
set_option maxHeartbeats 64000000
namespace Go.Proofs.YtipgfjihdglocaaGreat
open Go.RowKit Ga
theorem clean49_5(id kd par r0 r1 r2 r3 r4 r5 r6 r7:Int)(af ap:Option Addr)(nf cf np cp:Nat)(reset:Bool)(s:Gr.Stp)(w:World)(hn:StepIs w ⟨5,⟨id,kd,af,nf,cf,ap,np,cp,par,r0,r1,r2,r3,r4,r5,r6,r7⟩,reset⟩ s)(hs:s.nd.frm.length≤1000∧s.nd.prog.length≤1000): Calls Tryz.prog 105 #[.agg #[.int .i64 5,.int .i64 id,.int .i64 kd,.slice af nf cf,.slice ap np cp,.int .i64 par,.int .i64 r0,.int .i64 r1,.int .i64 r2,.int .i64 r3,.int .i64 r4,.int .i64 r5,.int .i64 r6,.int .i64 r7,.bool reset]] w (CleanGives (Gr.cleanS s) w):=by
 have hcl:=hn.clean;have HCL:=hY hcl;have HN:=hY hn;have H1:=hY fun W (g:Grew w W)=>cloneInts_any _ s.nd.frm W (HN.o.nd.f.grew g) hs.1
 have H2:=hY fun W (g:Grew w W)=>cloneVals_any _ s.nd.prog W (HN.o.nd.p.grew g) hs.2
 have HND:=hY hn.nd;have HS:=hY hs;have HK:=hY hn.kind;clear hn hcl hs;go_enter Tryz.func105,Tryz.ntmps105
 go_upto_region 14 with fail
 refine wp_region_noPanic ?_
 go_region_law (first
  | (go_simp;go_at_call 80;refine(H1.o _ gw).mono ?_;rintro e w1 ⟨v1,rfl,ho1,R3,n3,rfl⟩;obtain⟨a1,c1,rfl⟩:=(ho1.rows encN_len).len;(have HO1:=hY ho1);clear ho1))
 all_goals
  refine NoPanic.normal ?_;go_wp2;refine bodyPost_ret (res_clean49 rfl (grew_heap ((Grew.refl _).more _ _) (heap_alloc' (heap_alloc' (heap_new_at (w.alloc _) _ _ (by simp[World.size_alloc])) _) _))) rfl ?_;refine clean_made5 HN.o (OwnAt.low (OwnAt.same HO1.o fun b hb=>heap_more_same (by simp[World.size_alloc]) _ _ _ (by have:=HO1.o.lt b hb;simp[World.size_alloc] at this ⊢;omega)) (by simp[World.size_alloc];omega)) gw
theorem alike_any(c d:NdC)(n m:Gr.Nd)(w:World)(hn:NodeIs w c n)(hm:NodeIs w d m): Calls Tryz.prog 56 #[.agg #[.int .i64 c.id,.int .i64 c.kind,.slice c.af c.nf c.cf,.slice c.ap c.np c.cp,.int .i64 c.par,.int .i64 c.r0,.int .i64 c.r1,.int .i64 c.r2,.int .i64 c.r3,.int .i64 c.r4,.int .i64 c.r5,.int .i64 c.r6,.int .i64 c.r7],.agg #[.int .i64 d.id,.int .i64 d.kind,.slice d.af d.nf d.cf,.slice d.ap d.np d.cp,.int .i64 d.par,.int .i64 d.r0,.int .i64 d.r1,.int .i64 d.r2,.int .i64 d.r3,.int .i64 d.r4,.int .i64 d.r5,.int .i64 d.r6,.int .i64 d.r7]] w (Gives (.bool (eqNd n m)) w):=by
 have HF:=hY fun W (g:Grew w W)=>eqInts_any _ _ n.frm m.frm W (hn.f.grew g) (hm.f.grew g)
 have HP:=hY fun W (g:Grew w W)=>eqVals_any _ _ n.prog m.prog W (hn.p.grew g) (hm.p.grew g)
 obtain⟨id,kind,af,cf,ap,cp,par,r0,r1,r2,r3,r4,r5,r6,r7,rfl⟩:=hn.lit;obtain⟨id2,kind2,af2,cf2,ap2,cp2,par2,s0,s1,s2,s3,s4,s5,s6,s7,rfl⟩:=hm.lit;have e1:=hn.id;have e2:=hn.kind;have e3:=hn.par;have e4:=hn.route;have g1:=hm.id;have g2:=hm.kind;have g3:=hm.par;have g4:=hm.route;simp only at e1 e2 e3 e4 g1 g2 g3 g4 HF HP
 have heq:eqNd n m=(decide (id=id2)&&(decide (kind=kind2)&&(decide (par=par2)&&(decide ([r0,r1,r2,r3,r4,r5,r6,r7]=[s0,s1,s2,s3,s4,s5,s6,s7])&&(decide (n.frm=m.frm)&&decide (n.prog=m.prog)))))):=by
  obtain⟨i1,k1,f1,p1,q1,t1⟩:=n;obtain⟨i2,k2,f2,p2,q2,t2⟩:=m;simp only at e1 e2 e3 e4 g1 g2 g3 g4;subst e1 e2 e3 e4 g1 g2 g3 g4;rw[←Bool.decide_and,←Bool.decide_and,←Bool.decide_and,←Bool.decide_and,←Bool.decide_and];exact eqNd_iff (by simp only[Gr.Nd.mk.injEq];exact⟨fun⟨h1,h2,h3,h4,h5,h6⟩=>⟨h1,h2,h5,h6,h3,h4⟩,fun⟨h1,h2,h3,h4,h5,h6⟩=>⟨h1,h2,h5,h6,h3,h4⟩⟩)
 have HEQ:=hY heq;have h8:=eq8 r0 r1 r2 r3 r4 r5 r6 r7 s0 s1 s2 s3 s4 s5 s6 s7;have hfl:n.frm.length≤9223372036854775807:=by obtain⟨_,_,_,h,_⟩:=ints_open hn.f;exact h
 have hpl:n.prog.length≤9223372036854775807:=by obtain⟨_,_,_,h,_⟩:=hn.p.open2;exact h
 clear hn hm e1 e2 e3 e4 g1 g2 g3 g4 heq;generalize hq8:decide ([r0,r1,r2,r3,r4,r5,r6,r7]=[s0,s1,s2,s3,s4,s5,s6,s7])=b8 at *;generalize hqf:decide (n.frm=m.frm)=bf at *;generalize hqp:decide (n.prog=m.prog)=bp at *;clear hq8 hqf hqp;generalize n.frm.length=nf at *;generalize m.frm.length=mf at *;generalize n.prog.length=np at *;generalize m.prog.length=mp at *;generalize eqNd n m=q at *;by_cases h1:id=id2
 case neg =>
  have hq:q=false:=by rw[HEQ.o,decide_eq_false h1];simp
  have HQ:=hY hq;have h1b:(id==id2)=false:=by simpa using h1
  clear h1 hq;go_enter Tryz.func56,Tryz.ntmps56
  go_wp2_with (first
  | (go_at_call 69;refine(HF.o _ gw).mono ?_;rintro e w1 ⟨rfl,R1,n1,rfl⟩)
  | (go_at_call 118;refine(HP.o _ gw).mono ?_;rintro e w1 ⟨rfl,R2,n2,rfl⟩))
  go_ret;exact⟨by rw[HQ.o];rfl,gw⟩
 subst h1;by_cases h2:kind=kind2
 case neg =>
  have hq:q=false:=by rw[HEQ.o,decide_eq_false h2];simp
  have HQ:=hY hq;have h2b:(kind==kind2)=false:=by simpa using h2
  clear h2 hq;go_enter Tryz.func56,Tryz.ntmps56
  go_wp2_with (first
  | (go_at_call 69;refine(HF.o _ gw).mono ?_;rintro e w1 ⟨rfl,R1,n1,rfl⟩)
  | (go_at_call 118;refine(HP.o _ gw).mono ?_;rintro e w1 ⟨rfl,R2,n2,rfl⟩))
  go_ret;exact⟨by rw[HQ.o];rfl,gw⟩
 subst h2;by_cases h3:par=par2
 case neg =>
  have hq:q=false:=by rw[HEQ.o,decide_eq_false h3];simp
  have HQ:=hY hq;have h3b:(par==par2)=false:=by simpa using h3
  clear h3 hq;go_enter Tryz.func56,Tryz.ntmps56
  go_wp2_with (first
  | (go_at_call 69;refine(HF.o _ gw).mono ?_;rintro e w1 ⟨rfl,R1,n1,rfl⟩)
  | (go_at_call 118;refine(HP.o _ gw).mono ?_;rintro e w1 ⟨rfl,R2,n2,rfl⟩))
  go_ret;exact⟨by rw[HQ.o];rfl,gw⟩
 subst h3;cases b8
 ·have hq:q=false:=by rw[HEQ.o];simp
  have HQ:=hY hq;clear hq;go_enter Tryz.func56,Tryz.ntmps56
  go_wp2_with (first
  | (go_at_call 69;refine(HF.o _ gw).mono ?_;rintro e w1 ⟨rfl,R1,n1,rfl⟩)
  | (go_at_call 118;refine(HP.o _ gw).mono ?_;rintro e w1 ⟨rfl,R2,n2,rfl⟩))
  go_ret;exact⟨by rw[HQ.o];rfl,gw⟩
 cases bf
 ·have hq:q=false:=by rw[HEQ.o];simp
  have HQ:=hY hq;clear hq;go_enter Tryz.func56,Tryz.ntmps56
  go_wp2_with (first
  | (go_at_call 69;refine(HF.o _ gw).mono ?_;rintro e w1 ⟨rfl,R1,n1,rfl⟩)
  | (go_at_call 118;refine(HP.o _ gw).mono ?_;rintro e w1 ⟨rfl,R2,n2,rfl⟩))
  go_ret;exact⟨by rw[HQ.o];rfl,gw⟩
 ·have hq:q=bp:=by rw[HEQ.o];simp
  have HQ:=hY hq;clear hq;go_enter Tryz.func56,Tryz.ntmps56
  go_wp2_with (first
  | (go_at_call 69;refine(HF.o _ gw).mono ?_;rintro e w1 ⟨rfl,R1,n1,rfl⟩)
  | (go_at_call 118;refine(HP.o _ gw).mono ?_;rintro e w1 ⟨rfl,R2,n2,rfl⟩))
  go_ret;exact⟨by rw[HQ.o];rfl,gw⟩
open Classical in
noncomputable def eqNds(l m:List Gr.Nd): Bool:=decide (l=m)
open Classical in
theorem eqNds_true{l m:List Gr.Nd}(h:l=m): eqNds l m=true:=by unfold eqNds;exact decide_eq_true h
open Classical in
theorem eqNds_false{l m:List Gr.Nd}(h:l≠m): eqNds l m=false:=by unfold eqNds;exact decide_eq_false h
theorem eqNds_one(n m:Gr.Nd): eqNds [n] [m]=eqNd n m:=by
 by_cases h:n=m
 ·rw[eqNd_true h,eqNds_true (by rw[h])]
 ·rw[eqNd_false h,eqNds_false (by simpa using h)]
theorem eqNd_ne{n m:Gr.Nd}(h:eqNd n m=false): n≠m:=fun e=>by rw[eqNd_true e] at h;cases h
open Classical in
theorem eqNd_at{n m:Gr.Nd}(h:eqNd n m=true): n=m:=by
 unfold eqNd at h;exact of_decide_eq_true h
theorem eqFnNodes_any(v u:Value)(l m:List Gr.Nd)(w:World)(hv:NodesAt w v l)(hu:NodesAt w u m): Calls Tryz.prog 54 #[v,u,.func (.func 56) #[] #[]] w (Gives (.bool (eqNds l m)) w):=by
 have HV:=hY hv;have HU:=hY hu;obtain⟨a,cap,rfl,hm,-⟩:=hv.openC;obtain⟨a2,cap2,rfl,hm2,-⟩:=hu.openC;clear hv hu;by_cases hlen:l.length=m.length
 ·have hD2:((l.length:Int) != (m.length:Int))=false:=by rw[hlen];simp
  have HLEN:=hY hlen;clear hlen;go_enter Tryz.func54,Tryz.ntmps54;go_wp2
  go_loopg [17] l.length (fun gg s17 wr=>∃g:Nat,g≤l.length∧l.length-g≤gg∧s17 = .int .i64 g∧Hid (Grew w wr)∧Hid (l.take g=m.take g))
  case atStart=>exact⟨0,by omega,by omega,rfl,hY gw,hY rfl⟩
  case round =>
   obtain⟨g,hg8,hgg,rfl,HGR,HNO⟩:=hrel;by_cases hlt:g<l.length
   ·have hlt2:g<m.length:=by have:=HLEN.o;omega
    obtain⟨av,cv,e,-,hx⟩:=(HV.o.grew HGR.o).openC;cases e;obtain⟨av2,cv2,e,-,hx2⟩:=(HU.o.grew HGR.o).openC;cases e;obtain⟨b,off,c,rfl,hb,hn,c0,c1,c2,c3,c4,c5,c6,c7,c8,c9,c10,c11,c12⟩:=hx g hlt;obtain⟨b2,off2,d,rfl,hb2,hn2,d0,d1,d2,d3,d4,d5,d6,d7,d8,d9,d10,d11,d12⟩:=hx2 g hlt2;have HS:=hY (take_eq_succ hlt hlt2 HNO.o);have HF:=hY (neq_at hlt hlt2);clear hx hx2;generalize l[g]=y at *;generalize m[g]=z at *;have HA:=hY fun W (g:Grew wr W)=>alike_any c d y z W (hn.grew g) (hn2.grew g)
    obtain⟨cid,kind,af,cf,ap,cp,par,r0,r1,r2,r3,r4,r5,r6,r7,rfl⟩:=hn.lit;obtain⟨cid2,kind2,af2,cf2,ap2,cp2,par2,s0,s1,s2,s3,s4,s5,s6,s7,rfl⟩:=hn2.lit;simp only at c0 c1 c2 c3 c4 c5 c6 c7 c8 c9 c10 c11 c12 d0 d1 d2 d3 d4 d5 d6 d7 d8 d9 d10 d11 d12;clear hn hn2;cases hq:eqNd y z
    ·have HQ:=hY hq;have HFIN:=hY (eqNds_false (HF.o (eqNd_ne hq)));clear hq
     go_wp2_with (go_at_call 56;refine(HA.o _ gw).mono ?_;rintro e w1 ⟨rfl,R1,n1,rfl⟩;rw[HQ.o])
     go_ret;exact⟨by rw[HFIN.o];rfl,HGR.o.trans gw⟩
    ·have HQ:=hY hq;have HS2:=hY (HS.o (eqNd_at hq));clear hq
     go_wp2_with (go_at_call 56;refine(HA.o _ gw).mono ?_;rintro e w1 ⟨rfl,R1,n1,rfl⟩;rw[HQ.o])
     go_roundg (l.length-(g+1))
     case measure=>omega
     case rel=>exact⟨g+1,by omega,by omega,by go_num,hY (HGR.o.trans gw),HS2⟩
   ·obtain rfl:g=l.length:=by omega
    have hz:=HNO.o;rw[List.take_length,List.take_of_length_le (by have:=HLEN.o;omega)] at hz;have HFIN:=hY (eqNds_true hz);clear hz;go_wp2;go_ret;exact⟨by rw[HFIN.o];rfl,HGR.o⟩
 ·have hD2:((l.length:Int) != (m.length:Int))=true:=by rw[bne_iff_ne];omega
  have HFIN:=hY (eqNds_false (l:=l) (m:=m) fun h=>hlen (by rw[h]));clear hlen;go_enter Tryz.func54,Tryz.ntmps54;go_wp2;go_ret;exact⟨by rw[HFIN.o];rfl,gw⟩
theorem norm_at(v:Value)(y:Gr.Nd)(w:World)(hv:NodesAt w v [y])(hs:y.frm.length≤1000∧y.prog.length≤1000): Calls Tryz.prog 55 #[v] w (fun e w'=>∃v',e = .returned v'∧NodesAt w' v' [y]∧Grew w w'):=by
 refine(norm_any v [y] w hv (fun n hn=>by rw[List.mem_singleton] at hn;subst hn;exact hs) (by simp)).mono ?_;rintro e w' ⟨v',lc,l',rfl,ho,hi,hp,-,g⟩;obtain rfl:=List.perm_singleton.1 hp;exact⟨v',rfl,hi.at ho,g⟩
theorem same_one(v u:Value)(n m:Gr.Nd)(w:World)(hv:NodesAt w v [n])(hu:NodesAt w u [m])(hn:n.frm.length≤1000∧n.prog.length≤1000)(hm:m.frm.length≤1000∧m.prog.length≤1000): Calls Tryz.prog 19 #[v,u] w (Gives (.bool (eqNd n m)) w):=by
 have HV:=hY fun W (g:Grew w W)=>norm_at v n W (hv.grew g) hn
 have HU:=hY fun W (g:Grew w W)=>norm_at u m W (hu.grew g) hm
 have hone:=eqNds_one n m;have HONE:=hY hone;clear hv hu hone;go_enter Tryz.func19,Tryz.ntmps19
 go_wp2_with (first
  | (go_at_call_of 55 v;refine(HV.o _ gw).mono ?_;rintro e w1 ⟨v1,rfl,hv1,R1,n1,rfl⟩;(have HV1:=hY hv1);clear hv1)
  | (go_at_call_of 55 u;refine(HU.o _ gw).mono ?_;rintro e w1 ⟨v2,rfl,hv2,R2,n2,rfl⟩;(have HV2:=hY hv2);clear hv2)
  | (go_at_call 54;refine(eqFnNodes_any _ _ [n] [m] _ (HV1.o.grew gw) (HV2.o.grew gw)).mono ?_;rintro e w1 ⟨rfl,R3,n3,rfl⟩;rw[HONE.o]))
 go_ret;exact⟨rfl,gw⟩
open Classical in
noncomputable def eqSt(s t:Gr.Stp): Bool:=decide (s=t)
open Classical in
theorem eqSt_iff{s t:Gr.Stp}: eqSt s t=(decide (s.kind=t.kind)&&(s.reset==t.reset&&eqNd s.nd t.nd)):=by
 obtain⟨k1,n1,r1⟩:=s;obtain⟨k2,n2,r2⟩:=t;unfold eqSt eqNd;simp only[Gr.Stp.mk.injEq];by_cases h1:k1=k2<;>by_cases h2:n1=n2<;>by_cases h3:r1=r2<;>simp[h1,h2,h3]
theorem exact_any(c d:StC)(s t:Gr.Stp)(w:World)(hn:StepIs w c s)(hm:StepIs w d t)(hs:s.nd.frm.length≤1000∧s.nd.prog.length≤1000)(ht:t.nd.frm.length≤1000∧t.nd.prog.length≤1000): Calls Tryz.prog 73 #[.agg #[.int .i64 c.kind,.int .i64 c.c.id,.int .i64 c.c.kind,.slice c.c.af c.c.nf c.c.cf,.slice c.c.ap c.c.np c.c.cp,.int .i64 c.c.par,.int .i64 c.c.r0,.int .i64 c.c.r1,.int .i64 c.c.r2,.int .i64 c.c.r3,.int .i64 c.c.r4,.int .i64 c.c.r5,.int .i64 c.c.r6,.int .i64 c.c.r7,.bool c.reset],.agg #[.int .i64 d.kind,.int .i64 d.c.id,.int .i64 d.c.kind,.slice d.c.af d.c.nf d.c.cf,.slice d.c.ap d.c.np d.c.cp,.int .i64 d.c.par,.int .i64 d.c.r0,.int .i64 d.c.r1,.int .i64 d.c.r2,.int .i64 d.c.r3,.int .i64 d.c.r4,.int .i64 d.c.r5,.int .i64 d.c.r6,.int .i64 d.c.r7,.bool d.reset]] w (Gives (.bool (eqSt s t)) w):=by
 have HEQ:=hY (eqSt_iff (s:=s) (t:=t));have HN:=hY hn.nd;have HM:=hY hm.nd;have e1:=hn.kind;have e2:=hn.reset;have g1:=hm.kind;have g2:=hm.reset;have HSS:=hY hs;have HTT:=hY ht;obtain⟨kd,rs,id,kind,af,cf,ap,cp,par,r0,r1,r2,r3,r4,r5,r6,r7,rfl⟩:=hn.lit;obtain⟨kd2,rs2,id2,kind2,af2,cf2,ap2,cp2,par2,s0,s1,s2,s3,s4,s5,s6,s7,rfl⟩:=hm.lit;simp only at e1 e2 g1 g2;rw[e1,e2,g1,g2] at HEQ;clear hn hm e1 e2 g1 g2 hs ht;generalize eqSt s t=q at *;by_cases h1:kd=kd2
 case neg =>
  have hq:q=false:=by rw[HEQ.o,decide_eq_false h1];rfl
  have HQ:=hY hq;have h1b:(kd==kd2)=false:=by simpa using h1
  clear h1 hq;go_enter Tryz.func73,Tryz.ntmps73;go_wp2;go_ret;exact⟨by rw[HQ.o];rfl,gw⟩
 subst h1;by_cases h2:rs=rs2
 case neg =>
  have hq:q=false:=by rw[HEQ.o,beq_eq_false_iff_ne.2 h2];simp
  have HQ:=hY hq;have h2b:(rs==rs2)=false:=beq_eq_false_iff_ne.2 h2;clear h2 hq;go_enter Tryz.func73,Tryz.ntmps73;go_wp2;go_ret;exact⟨by rw[HQ.o];rfl,gw⟩
 subst h2;cases hq2:eqNd s.nd t.nd
 ·have hq:q=false:=by rw[HEQ.o,hq2];simp
  have HQ:=hY hq;have HQ2:=hY hq2;clear hq hq2;go_enter Tryz.func73,Tryz.ntmps73
  go_wp2_with (go_at_call 19;refine Calls.mono (same_one _ _ s.nd t.nd _ ?_ ?_ HSS.o HTT.o) ?_;(focus(refine NodesAt.grew ?_ ((Grew.refl _).alloc _);exact NodesAt.one (HN.o.grew gw) _ (by simp[World.size_alloc]) _ rfl));(focus exact NodesAt.one (HM.o.grew gw) _ (by simp[World.size_alloc]) _ rfl);rintro e w1 ⟨rfl,R1,n1,rfl⟩;rw[HQ2.o])
  go_ret;exact⟨by rw[HQ.o];rfl,gw⟩
 ·have hq:q=true:=by rw[HEQ.o,hq2];simp
  have HQ:=hY hq;have HQ2:=hY hq2;clear hq hq2;go_enter Tryz.func73,Tryz.ntmps73
  go_wp2_with (go_at_call 19;refine Calls.mono (same_one _ _ s.nd t.nd _ ?_ ?_ HSS.o HTT.o) ?_;(focus(refine NodesAt.grew ?_ ((Grew.refl _).alloc _);exact NodesAt.one (HN.o.grew gw) _ (by simp[World.size_alloc]) _ rfl));(focus exact NodesAt.one (HM.o.grew gw) _ (by simp[World.size_alloc]) _ rfl);rintro e w1 ⟨rfl,R1,n1,rfl⟩;rw[HQ2.o])
  go_ret;exact⟨by rw[HQ.o];rfl,gw⟩
theorem strCells_flat(t:List UInt8): Lib.strCells ⟨t.toArray⟩=t.flatMap encB:=by
 unfold Lib.strCells;simp only
 induction t with
 | nil=>rfl
 |cons x t ih =>
  rw[List.flatMap_cons,←ih];rfl
theorem wpList_ownStr{w0:World}{v:Value}{l:List UInt8}{ops:Array Oper}{rest:List Oper}{o:Oper}{a:Act}{Q:Exit→Act→World→Prop}{W:World}
  (hgd:o.guard=none) (s x:Operand) (ho:o.op = .call { callee:=.builtin .append,args:=#[s,x],argTypes:=#[145,9] })
  (hs:a.eval s=v) (hown:OwnAt w0.heap.size 5 1 encB W v l) (hg:Grew w0 W) (t:List UInt8) (hx:a.eval x = .string ⟨t.toArray⟩) (hlen:l.length+t.length≤1000000)
  (h:∀v' R N,OwnAt w0.heap.size 5 1 encB (w0.more R N) v' (l++t)→(∀q,q<W.heap.size→v.ownBlock≠some q→(w0.more R N).heap[q]? = W.heap[q]?)→W.heap.size≤(w0.more R N).heap.size→wpList Tryz.prog ops Q rest (a.put o.dst v') (w0.more R N)):wpList Tryz.prog ops Q (o::rest) a W:=by
 obtain⟨i,hi,hz0,hz1,hz2⟩:=info_parts infoU8;have hsz:(⟨t.toArray⟩:ByteArray).size=t.length:=by simp[ByteArray.size]
 refine Lib.wpList_append_own_string W hgd s x 145 9 ho w0.heap.size 5 i Tryz.underlying145 Tryz.underlying9 hi hz0 hz1 hz2 v l.length (l.flatMap encB) hs hown ⟨t.toArray⟩ hx (by rw[hsz];unfold maxLen;omega) (by rw[hsz];omega) hg.below.size ?_;intro v' w' h1 h2 _;have hblk:=h2.block;have hszz:=h2.size;obtain⟨R,N,rfl⟩:=hg.grown h2 (fun q hq=>OwnAt.lt hown q hq);refine h v' R N ?_ (fun q hq hne=>hblk q hq (fun e=>hne e.symm)) hszz;unfold OwnAt;rw[List.length_append,List.flatMap_append,←strCells_flat t,←hsz];exact h1
theorem KeptW.step0{base B:Nat}{wr W9:World}{vk v9:Value}{ys:List UInt8}(hw:WriterAt base B wr vk ys)(hsz:wr.heap.size≤W9.heap.size)(hk:∀q,q<wr.heap.size→vk.ownBlock≠some q→W9.heap[q]? = wr.heap[q]?): KeptW base B wr (W9.setCell ⟨B,0,none⟩ v9) :=
 ⟨by rw[World.size_setCell];exact hsz,fun q hq hn hs=>by rw[heap_set_other (fun e=>hn e.symm),hk q hq (hs.own hw.2.2)]⟩
theorem octText_any(w0 W:World)(B:Nat)(vb:Value)(bs t:List UInt8)(hw:WriterAt w0.heap.size B W vb bs)(hg:Grew w0 W)(hlen:bs.length+t.length≤90000):
  Calls Tryz.prog 93 #[.pointer (some ⟨B,0,none⟩),.string ⟨t.toArray⟩] W fun e W'=>e = .returned (.int .i64 0)∧Grew w0 W'∧KeptW w0.heap.size B W W'∧∃vb',WriterAt w0.heap.size B W' vb' (bs++(Oc.be t.length++t)):=by
 have HW:=hY hw;have HG:=hY hg;have hBlt:=heap_lt hw.2.1;have hbig:¬(1048576:Int)<(t.length:Int):=by omega
 clear hw hg;go_enter Tryz.func93,Tryz.ntmps93
 go_wp2_with fail
 refine(writerNum_freshK w0 W B vb bs [(t.length:Int)] [.int .i64 t.length] _ _ _ HW.o HG.o rfl (by simp[go_sem]) rfl ?_ (by simp;omega)).mono ?_
 ·simp only[List.all_cons,List.all_nil,Bool.and_true];exact fits_of (by omega) (by omega)
 rintro e W1 ⟨rfl,hg1,hk1,vb1,hw1⟩;rw[be_one] at hw1;have HW1:=hY hw1;have HG1:=hY hg1;have HK1:=hY hk1;have c0:=cell_of_heap (o:=0) hw1.2.1;have f0:=frozen_of_heap (o:=0) hw1.2.1;have pB:=Pre.mk (heap_lt hw1.2.1);simp at c0;clear hw1 hg1 hk1
 go_wp2_with (at_builtin;go_loud (refine wpList_ownStr (w0:=w0) rfl (.tmp 21) (.tmp 22) rfl rfl HW1.o.2.2 HG1.o t rfl (by rw[List.length_append,Oc.be_len];omega) ?_);intro v9 R9 n9 hown9 hkeep9 hsz9;obtain⟨a9,c9,rfl⟩:=(OwnAt.rows hown9 encB_len).len;(have hB9:(w0.more R9 n9).heap[B]? = some (.cells #[vb1] 147):=(by rw[hkeep9 B (heap_lt HW1.o.2.1) (Safe.own (.inr ⟨_,_,_,HW1.o.2.1,by decide⟩) HW1.o.2.2)];exact HW1.o.2.1));(have hcB:=cell_of_heap (o:=0) hB9);(have hfB:=frozen_of_heap (o:=0) hB9);simp at hcB;(have HO9:=hY hown9);(have HK9:=hY hkeep9);(have HS9:=hY hsz9);(have HB9:=hY hB9);(have pB9:=Pre.mk (heap_lt hB9));clear hown9 hkeep9 hsz9 hB9)
 go_ret;have hsB:Safe w0.heap.size B (w0.more R9 n9):=.inr ⟨_,_,_,HB9.o,by decide⟩;refine⟨rfl,Grew.setBehind ⟨R9,n9,rfl⟩ HW1.o.1 _,HK1.o.trans (KeptW.step0 HW1.o HS9.o HK9.o),_,HW1.o.1,heap_set_self HB9.o,?_⟩;have ho9:=HO9.o;simp only[List.length_append,Nat.add_assoc] at ho9;rw[←List.append_assoc];exact OwnAt.sameBlock ho9 fun q hq=>heap_set_other (fun e=>by subst e;exact hsB.own ho9 hq)
theorem checkR_right{l:List Gr.Nd}(h:checkR l=0): Gr.RightR l:=by
 unfold checkR at h;split at h
 ·cases h
 ·split at h
  ·assumption
  ·cases h
theorem chkR:Gr.Chk checkR where
 perm:=fun {l l'} hp=>by
  unfold checkR;rw[hp.length_eq];have e:Gr.RightR l↔Gr.RightR l':=⟨fun h=>h.perm hp,fun h=>h.perm hp.symm⟩;by_cases h:Gr.RightR l
  ·rw[if_pos h,if_pos (e.1 h)]
  ·rw[if_neg h,if_neg (fun q=>h (e.2 q))]
 un:=fun {l} h=>((right_self l).1 (checkR_right h)).un
 seven:=fun {l} h n hn=>by
  have:=((right_self l).1 (checkR_right h)).ok n hn;exact⟨this.id0,by have:=this.id7;omega⟩
def workE(l:List Gr.Nd)(s:Gr.Stp): Int×List Gr.Nd :=
 if s.kind=2 then addE l (Gr.cleanS s) (findI l s.nd.id)
 else match Gr.find l s.nd.id with
  | none=>(12,[])
  |some i=>match l[i]? with
   | none=>(12,[])
   | some n=>chgE l i n (Gr.cleanS s)
theorem find_at{l:List Gr.Nd}{x:Int}{i:Nat}(h:Gr.find l x=some i): ∃hi:i<l.length,l[i].id=x:=by
 unfold Gr.find at h;obtain⟨hi,h2,-⟩:=List.findIdx?_eq_some_iff_getElem.1 h;exact⟨hi,by simpa using h2⟩
theorem kid_any(l:List Gr.Nd)(x:Int): kidB l x=l.any fun m=>decide (x∈m.frm):=rfl
theorem work_step{l:List Gr.Nd}{s:Gr.Stp}(hc:checkR l=0)(hk:1≤s.kind∧s.kind≤5):
  ((workE l s).1≠0∧Gr.stepE checkR l s=((workE l s).1,[]))∨((workE l s).1=0∧Gr.stepE checkR l s=Gr.finE checkR (workE l s).2):=by
 have hu:=chkR.un hc;unfold Gr.stepE;rw[if_neg (by rw[hc];decide),if_neg (by omega)];unfold workE
 cases hf:Gr.find l s.nd.id with
 |none =>
  have hn:Gr.nodeOf l s.nd.id=none:=by unfold Gr.nodeOf;rw[hf];rfl
  rw[hn];simp only;by_cases h2:s.kind=2
  ·rw[if_pos h2,if_pos h2];have hcl:Gr.cleanS s=⟨2,s.nd,false⟩:=by unfold Gr.cleanS;rw[if_neg (by omega),if_pos h2]
   have hfi:findI l s.nd.id = -1:=by unfold findI;rw[hf]
   rw[hcl,hfi];unfold addE;rw[if_neg (by decide)];by_cases h0:s.nd.kind=0
   ·rw[if_pos h0,if_pos h0];exact .inl ⟨by decide,rfl⟩
   ·rw[if_neg h0,if_neg h0];exact .inr ⟨rfl,rfl⟩
  ·rw[if_neg h2,if_neg h2]
   exact .inl ⟨by decide,rfl⟩
 |some i =>
  obtain⟨hi,hid⟩:=find_at hf;have hn:Gr.nodeOf l s.nd.id=some l[i]:=by unfold Gr.nodeOf;rw[hf,Option.bind_some,List.getElem?_eq_getElem hi]
  rw[hn];simp only[List.getElem?_eq_getElem hi];by_cases h2:s.kind=2
  ·rw[if_pos h2,if_pos h2];have hfi:findI l s.nd.id=i:=by unfold findI;rw[hf]
   rw[hfi];unfold addE;rw[if_pos (by omega)];exact .inl ⟨by decide,rfl⟩
  ·rw[if_neg h2,if_neg h2];unfold chgE;by_cases h1:s.kind=1
   ·have hcl:Gr.cleanS s=⟨1,⟨s.nd.id,0,[],s.nd.prog,0,Gr.zeros⟩,s.reset⟩:=by unfold Gr.cleanS;rw[if_pos h1]
    rw[hcl,if_pos h1];simp only[if_true];unfold swapE;by_cases hk1:l[i].kind≠1
    ·rw[if_pos hk1,if_pos hk1];exact .inl ⟨by decide,rfl⟩
    ·rw[if_neg hk1,if_neg hk1];by_cases hs:Vm.safe s.nd.prog=true
     ·rw[if_pos hs,if_pos hs];exact .inr ⟨rfl,by rw[←Gr.updN_set hu hi hid]⟩
     ·rw[if_neg hs,if_neg hs];exact .inl ⟨by decide,rfl⟩
   rw[if_neg h1];by_cases h3:s.kind=3
   ·have hcl:Gr.cleanS s=⟨3,⟨s.nd.id,0,[],[],0,Gr.zeros⟩,false⟩:=by unfold Gr.cleanS;rw[if_neg (by omega),if_neg (by omega),if_pos h3]
    rw[hcl,if_pos h3];simp only[show ¬((3:Int)=1) by decide,if_false,if_true];rw[kid_any,hid];by_cases hq:l[i].kind=0∨(l.any fun m=>decide (s.nd.id∈m.frm))=true
    ·rw[if_pos hq,if_pos hq];exact .inl ⟨by decide,rfl⟩
    ·rw[if_neg hq,if_neg hq];exact .inr ⟨rfl,by rw[←Gr.remN_cut hu hi hid]⟩
   rw[if_neg h3];by_cases h4:s.kind=4
   ·have hcl:Gr.cleanS s=⟨4,⟨s.nd.id,0,[],[],s.nd.par,s.nd.route⟩,false⟩:=by unfold Gr.cleanS;rw[if_neg (by omega),if_neg (by omega),if_neg (by omega),if_pos h4]
    rw[hcl,if_pos h4];simp only[show ¬((4:Int)=1) by decide,show ¬((4:Int)=3) by decide,if_false,if_true];by_cases hq:l[i].kind=0
    ·rw[if_pos hq,if_pos hq];exact .inl ⟨by decide,rfl⟩
    ·rw[if_neg hq,if_neg hq];exact .inr ⟨rfl,by rw[←Gr.updN_set hu hi hid]⟩
   rw[if_neg h4];have h5:s.kind=5:=by omega
   have hcl:Gr.cleanS s=⟨5,⟨s.nd.id,0,s.nd.frm,[],0,Gr.zeros⟩,false⟩:=by unfold Gr.cleanS;rw[if_neg (by omega),if_neg (by omega),if_neg (by omega),if_neg (by omega),if_pos h5]
   rw[hcl];simp only[show ¬((5:Int)=1) by decide,show ¬((5:Int)=3) by decide,show ¬((5:Int)=4) by decide,if_false];by_cases hq:l[i].kind≠2
   ·rw[if_pos hq,if_pos hq];exact .inl ⟨by decide,rfl⟩
   ·rw[if_neg hq,if_neg hq];exact .inr ⟨rfl,by rw[←Gr.updN_set hu hi hid]⟩
end Go.Proofs.YtipgfjihdglocaaGreat
