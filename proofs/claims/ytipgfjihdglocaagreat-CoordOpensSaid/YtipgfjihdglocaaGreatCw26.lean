import Derived.Test.YtipgfjihdglocaaGreatCw22
import Derived.Test.YtipgfjihdglocaaGreatCw16
import Derived.Test.YtipgfjihdglocaaGreatCw19
set_option linter.unusedSimpArgs false
set_option linter.unusedVariables false
set_option maxRecDepth 100000
set_option maxHeartbeats 64000000
namespace Go.Proofs.YtipgfjihdglocaaGreat
open Go.RowKit Ga
open Classical in
noncomputable def eqNds(l m:List Gr.Nd): Bool:=decide (l=m)
open Classical in
theorem eqNds_true{l m:List Gr.Nd}(h:l=m): eqNds l m=true:=by unfold eqNds;exact decide_eq_true h
open Classical in
theorem eqNds_false{l m:List Gr.Nd}(h:l≠m): eqNds l m=false:=by unfold eqNds;exact decide_eq_false h
theorem eqNds_one(n m:Gr.Nd): eqNds [n] [m]=eqNd n m:=by
 by_cases h:n=m
 ·rw[eqNd_true h,eqNds_true (by rw[h])]
 ·rw[eqNd_false h,eqNds_false (by simpa using h)]
theorem eqNd_ne{n m:Gr.Nd}(h:eqNd n m=false): n≠m:=fun e=>by rw[eqNd_true e] at h;cases h
open Classical in
theorem eqNd_at{n m:Gr.Nd}(h:eqNd n m=true): n=m:=by
 unfold eqNd at h;exact of_decide_eq_true h
theorem eqFnNodes_any(v u:Value)(l m:List Gr.Nd)(w:World)(hv:NodesAt w v l)(hu:NodesAt w u m): Calls Tryz.prog 54 #[v,u,.func (.func 56) #[] #[]] w (Gives (.bool (eqNds l m)) w):=by
 have HV:=hY hv;have HU:=hY hu;obtain⟨a,cap,rfl,hm,-⟩:=hv.openC;obtain⟨a2,cap2,rfl,hm2,-⟩:=hu.openC;clear hv hu;by_cases hlen:l.length=m.length
 ·have hD2:((l.length:Int) != (m.length:Int))=false:=by rw[hlen];simp
  have HLEN:=hY hlen;clear hlen;go_enter Tryz.func54,Tryz.ntmps54;go_wp2
  go_loopg [17] l.length (fun gg s17 wr=>∃g:Nat,g≤l.length∧l.length-g≤gg∧s17 = .int .i64 g∧Hid (Grew w wr)∧Hid (l.take g=m.take g))
  case atStart=>exact⟨0,by omega,by omega,rfl,hY gw,hY rfl⟩
  case round =>
   obtain⟨g,hg8,hgg,rfl,HGR,HNO⟩:=hrel;by_cases hlt:g<l.length
   ·have hlt2:g<m.length:=by have:=HLEN.o;omega
    obtain⟨av,cv,e,-,hx⟩:=(HV.o.grew HGR.o).openC;cases e;obtain⟨av2,cv2,e,-,hx2⟩:=(HU.o.grew HGR.o).openC;cases e;obtain⟨b,off,c,rfl,hb,hn,c0,c1,c2,c3,c4,c5,c6,c7,c8,c9,c10,c11,c12⟩:=hx g hlt;obtain⟨b2,off2,d,rfl,hb2,hn2,d0,d1,d2,d3,d4,d5,d6,d7,d8,d9,d10,d11,d12⟩:=hx2 g hlt2;have HS:=hY (take_eq_succ hlt hlt2 HNO.o);have HF:=hY (neq_at hlt hlt2);clear hx hx2;generalize l[g]=y at *;generalize m[g]=z at *;have HA:=hY fun W (g:Grew wr W)=>alike_any c d y z W (hn.grew g) (hn2.grew g)
    obtain⟨cid,kind,af,cf,ap,cp,par,r0,r1,r2,r3,r4,r5,r6,r7,rfl⟩:=hn.lit;obtain⟨cid2,kind2,af2,cf2,ap2,cp2,par2,s0,s1,s2,s3,s4,s5,s6,s7,rfl⟩:=hn2.lit;simp only at c0 c1 c2 c3 c4 c5 c6 c7 c8 c9 c10 c11 c12 d0 d1 d2 d3 d4 d5 d6 d7 d8 d9 d10 d11 d12;clear hn hn2;cases hq:eqNd y z
    ·have HQ:=hY hq;have HFIN:=hY (eqNds_false (HF.o (eqNd_ne hq)));clear hq
     go_wp2_with (go_at_call 56;refine(HA.o _ gw).mono ?_;rintro e w1 ⟨rfl,R1,n1,rfl⟩;rw[HQ.o])
     go_ret;exact⟨by rw[HFIN.o];rfl,HGR.o.trans gw⟩
    ·have HQ:=hY hq;have HS2:=hY (HS.o (eqNd_at hq));clear hq
     go_wp2_with (go_at_call 56;refine(HA.o _ gw).mono ?_;rintro e w1 ⟨rfl,R1,n1,rfl⟩;rw[HQ.o])
     go_roundg (l.length-(g+1))
     case measure=>omega
     case rel=>exact⟨g+1,by omega,by omega,by go_num,hY (HGR.o.trans gw),HS2⟩
   ·obtain rfl:g=l.length:=by omega
    have hz:=HNO.o;rw[List.take_length,List.take_of_length_le (by have:=HLEN.o;omega)] at hz;have HFIN:=hY (eqNds_true hz);clear hz;go_wp2;go_ret;exact⟨by rw[HFIN.o];rfl,HGR.o⟩
 ·have hD2:((l.length:Int) != (m.length:Int))=true:=by rw[bne_iff_ne];omega
  have HFIN:=hY (eqNds_false (l:=l) (m:=m) fun h=>hlen (by rw[h]));clear hlen;go_enter Tryz.func54,Tryz.ntmps54;go_wp2;go_ret;exact⟨by rw[HFIN.o];rfl,gw⟩
theorem norm_at(v:Value)(y:Gr.Nd)(w:World)(hv:NodesAt w v [y])(hs:y.frm.length≤1000∧y.prog.length≤1000): Calls Tryz.prog 55 #[v] w (fun e w'=>∃v',e = .returned v'∧NodesAt w' v' [y]∧Grew w w'):=by
 refine(norm_any v [y] w hv (fun n hn=>by rw[List.mem_singleton] at hn;subst hn;exact hs) (by simp)).mono ?_;rintro e w' ⟨v',lc,l',rfl,ho,hi,hp,-,g⟩;obtain rfl:=List.perm_singleton.1 hp;exact⟨v',rfl,hi.at ho,g⟩
theorem same_one(v u:Value)(n m:Gr.Nd)(w:World)(hv:NodesAt w v [n])(hu:NodesAt w u [m])(hn:n.frm.length≤1000∧n.prog.length≤1000)(hm:m.frm.length≤1000∧m.prog.length≤1000): Calls Tryz.prog 19 #[v,u] w (Gives (.bool (eqNd n m)) w):=by
 have HV:=hY fun W (g:Grew w W)=>norm_at v n W (hv.grew g) hn
 have HU:=hY fun W (g:Grew w W)=>norm_at u m W (hu.grew g) hm
 have hone:=eqNds_one n m;have HONE:=hY hone;clear hv hu hone;go_enter Tryz.func19,Tryz.ntmps19
 go_wp2_with (first
  | (go_at_call_of 55 v;refine(HV.o _ gw).mono ?_;rintro e w1 ⟨v1,rfl,hv1,R1,n1,rfl⟩;(have HV1:=hY hv1);clear hv1)
  | (go_at_call_of 55 u;refine(HU.o _ gw).mono ?_;rintro e w1 ⟨v2,rfl,hv2,R2,n2,rfl⟩;(have HV2:=hY hv2);clear hv2)
  | (go_at_call 54;refine(eqFnNodes_any _ _ [n] [m] _ (HV1.o.grew gw) (HV2.o.grew gw)).mono ?_;rintro e w1 ⟨rfl,R3,n3,rfl⟩;rw[HONE.o]))
 go_ret;exact⟨rfl,gw⟩
open Classical in
noncomputable def eqSt(s t:Gr.Stp): Bool:=decide (s=t)
open Classical in
theorem eqSt_iff{s t:Gr.Stp}: eqSt s t=(decide (s.kind=t.kind)&&(s.reset==t.reset&&eqNd s.nd t.nd)):=by
 obtain⟨k1,n1,r1⟩:=s;obtain⟨k2,n2,r2⟩:=t;unfold eqSt eqNd;simp only[Gr.Stp.mk.injEq];by_cases h1:k1=k2<;>by_cases h2:n1=n2<;>by_cases h3:r1=r2<;>simp[h1,h2,h3]
theorem exact_any(c d:StC)(s t:Gr.Stp)(w:World)(hn:StepIs w c s)(hm:StepIs w d t)(hs:s.nd.frm.length≤1000∧s.nd.prog.length≤1000)(ht:t.nd.frm.length≤1000∧t.nd.prog.length≤1000): Calls Tryz.prog 73 #[.agg #[.int .i64 c.kind,.int .i64 c.c.id,.int .i64 c.c.kind,.slice c.c.af c.c.nf c.c.cf,.slice c.c.ap c.c.np c.c.cp,.int .i64 c.c.par,.int .i64 c.c.r0,.int .i64 c.c.r1,.int .i64 c.c.r2,.int .i64 c.c.r3,.int .i64 c.c.r4,.int .i64 c.c.r5,.int .i64 c.c.r6,.int .i64 c.c.r7,.bool c.reset],.agg #[.int .i64 d.kind,.int .i64 d.c.id,.int .i64 d.c.kind,.slice d.c.af d.c.nf d.c.cf,.slice d.c.ap d.c.np d.c.cp,.int .i64 d.c.par,.int .i64 d.c.r0,.int .i64 d.c.r1,.int .i64 d.c.r2,.int .i64 d.c.r3,.int .i64 d.c.r4,.int .i64 d.c.r5,.int .i64 d.c.r6,.int .i64 d.c.r7,.bool d.reset]] w (Gives (.bool (eqSt s t)) w):=by
 have HEQ:=hY (eqSt_iff (s:=s) (t:=t));have HN:=hY hn.nd;have HM:=hY hm.nd;have e1:=hn.kind;have e2:=hn.reset;have g1:=hm.kind;have g2:=hm.reset;have HSS:=hY hs;have HTT:=hY ht;obtain⟨kd,rs,id,kind,af,cf,ap,cp,par,r0,r1,r2,r3,r4,r5,r6,r7,rfl⟩:=hn.lit;obtain⟨kd2,rs2,id2,kind2,af2,cf2,ap2,cp2,par2,s0,s1,s2,s3,s4,s5,s6,s7,rfl⟩:=hm.lit;simp only at e1 e2 g1 g2;rw[e1,e2,g1,g2] at HEQ;clear hn hm e1 e2 g1 g2 hs ht;generalize eqSt s t=q at *;by_cases h1:kd=kd2
 case neg =>
  have hq:q=false:=by rw[HEQ.o,decide_eq_false h1];rfl
  have HQ:=hY hq;have h1b:(kd==kd2)=false:=by simpa using h1
  clear h1 hq;go_enter Tryz.func73,Tryz.ntmps73;go_wp2;go_ret;exact⟨by rw[HQ.o];rfl,gw⟩
 subst h1;by_cases h2:rs=rs2
 case neg =>
  have hq:q=false:=by rw[HEQ.o,beq_eq_false_iff_ne.2 h2];simp
  have HQ:=hY hq;have h2b:(rs==rs2)=false:=beq_eq_false_iff_ne.2 h2;clear h2 hq;go_enter Tryz.func73,Tryz.ntmps73;go_wp2;go_ret;exact⟨by rw[HQ.o];rfl,gw⟩
 subst h2;cases hq2:eqNd s.nd t.nd
 ·have hq:q=false:=by rw[HEQ.o,hq2];simp
  have HQ:=hY hq;have HQ2:=hY hq2;clear hq hq2;go_enter Tryz.func73,Tryz.ntmps73
  go_wp2_with (go_at_call 19;refine Calls.mono (same_one _ _ s.nd t.nd _ ?_ ?_ HSS.o HTT.o) ?_;(focus(refine NodesAt.grew ?_ ((Grew.refl _).alloc _);exact NodesAt.one (HN.o.grew gw) _ (by simp[World.size_alloc]) _ rfl));(focus exact NodesAt.one (HM.o.grew gw) _ (by simp[World.size_alloc]) _ rfl);rintro e w1 ⟨rfl,R1,n1,rfl⟩;rw[HQ2.o])
  go_ret;exact⟨by rw[HQ.o];rfl,gw⟩
 ·have hq:q=true:=by rw[HEQ.o,hq2];simp
  have HQ:=hY hq;have HQ2:=hY hq2;clear hq hq2;go_enter Tryz.func73,Tryz.ntmps73
  go_wp2_with (go_at_call 19;refine Calls.mono (same_one _ _ s.nd t.nd _ ?_ ?_ HSS.o HTT.o) ?_;(focus(refine NodesAt.grew ?_ ((Grew.refl _).alloc _);exact NodesAt.one (HN.o.grew gw) _ (by simp[World.size_alloc]) _ rfl));(focus exact NodesAt.one (HM.o.grew gw) _ (by simp[World.size_alloc]) _ rfl);rintro e w1 ⟨rfl,R1,n1,rfl⟩;rw[HQ2.o])
  go_ret;exact⟨by rw[HQ.o];rfl,gw⟩
end Go.Proofs.YtipgfjihdglocaaGreat
