import Derived.Test.YtipgfjihdglocaaGreatCw32
set_option linter.unusedSimpArgs false
set_option linter.unusedVariables false
set_option maxRecDepth 100000
set_option maxHeartbeats 64000000
namespace Go.Proofs.YtipgfjihdglocaaGreat
open Go.RowKit Ga
def eqBy(R:Gr.Stp→Gr.Stp→Bool): List Gr.Stp→List Gr.Stp→Bool
 | [],[]=>true
 | x::l,y::m=>R x y&&eqBy R l m
 | _,_=>false
theorem eqBy_iff(R:Gr.Stp→Gr.Stp→Bool): ∀(l m:List Gr.Stp),eqBy R l m=true↔l.length=m.length∧∀(i:Nat) (h:i<l.length) (h2:i<m.length),R l[i] m[i]=true
 | [],[]=>by simp[eqBy]
 | [],y::m=>by simp[eqBy]
 | x::l,[]=>by simp[eqBy]
 |x::l,y::m=>by
  rw[eqBy,Bool.and_eq_true,eqBy_iff R l m];constructor
  ·rintro⟨h1,h2,h3⟩;refine⟨by simp[h2],fun i hi hi2=>?_⟩
   cases i with
   | zero=>exact h1
   | succ i=>exact h3 i (by simpa using hi) (by simpa using hi2)
  ·rintro⟨h1,h2⟩;refine⟨h2 0 (by simp) (by simp),by simpa using h1,fun i hi hi2=>?_⟩;exact h2 (i+1) (by simpa using hi) (by simpa using hi2)
def UptoBy(R:Gr.Stp→Gr.Stp→Bool)(l m:List Gr.Stp)(g:Nat): Prop:=∀(i:Nat) (h:i<l.length) (h2:i<m.length),i<g→R l[i] m[i]=true
theorem UptoBy.succ{R:Gr.Stp→Gr.Stp→Bool}{l m:List Gr.Stp}{g:Nat}(h:UptoBy R l m g)(h1:g<l.length)(h2:g<m.length)(h3:R l[g] m[g]=true): UptoBy R l m (g+1):=fun i hi hi2 hg=>by
 rcases Nat.lt_or_ge i g with h4|h4
 ·exact h i hi hi2 h4
 ·obtain rfl:i=g:=by omega
  exact h3
theorem UptoBy.eqBy{R:Gr.Stp→Gr.Stp→Bool}{l m:List Gr.Stp}(h:UptoBy R l m l.length)(hl:l.length=m.length): eqBy R l m=true:=(eqBy_iff R l m).2 ⟨hl,fun i h1 h2=>h i h1 h2 h1⟩
theorem eqBy_no(R:Gr.Stp→Gr.Stp→Bool){l m:List Gr.Stp}{g:Nat}(h1:g<l.length)(h2:g<m.length)(h3:R l[g] m[g]=false): eqBy R l m=false:=by
 rw[Bool.eq_false_iff];intro h;have:=((eqBy_iff R l m).1 h).2 g h1 h2;rw[h3] at this;cases this
theorem eqBy_len(R:Gr.Stp→Gr.Stp→Bool){l m:List Gr.Stp}(h:l.length≠m.length): eqBy R l m=false:=by
 rw[Bool.eq_false_iff];intro h1;exact h ((eqBy_iff R l m).1 h1).1
noncomputable def sameSt(s t:Gr.Stp): Bool:=eqSt (Gr.cleanS s) (Gr.cleanS t)
theorem packSameS_any(c d:StC)(s t:Gr.Stp)(w:World)(hn:StepIs w c s)(hm:StepIs w d t)(hs:s.nd.frm.length≤1000∧s.nd.prog.length≤1000)(ht:t.nd.frm.length≤1000∧t.nd.prog.length≤1000): Calls Tryz.prog 108 #[.agg #[.int .i64 c.kind,.int .i64 c.c.id,.int .i64 c.c.kind,.slice c.c.af c.c.nf c.c.cf,.slice c.c.ap c.c.np c.c.cp,.int .i64 c.c.par,.int .i64 c.c.r0,.int .i64 c.c.r1,.int .i64 c.c.r2,.int .i64 c.c.r3,.int .i64 c.c.r4,.int .i64 c.c.r5,.int .i64 c.c.r6,.int .i64 c.c.r7,.bool c.reset],.agg #[.int .i64 d.kind,.int .i64 d.c.id,.int .i64 d.c.kind,.slice d.c.af d.c.nf d.c.cf,.slice d.c.ap d.c.np d.c.cp,.int .i64 d.c.par,.int .i64 d.c.r0,.int .i64 d.c.r1,.int .i64 d.c.r2,.int .i64 d.c.r3,.int .i64 d.c.r4,.int .i64 d.c.r5,.int .i64 d.c.r6,.int .i64 d.c.r7,.bool d.reset]] w (Gives (.bool (sameSt s t)) w):=packSame_any c d s t w hn hm hs ht
theorem eqSt_true{s t:Gr.Stp}: eqSt s t=true↔s=t:=by unfold eqSt;simp only[decide_eq_true_eq]
theorem same_iff(l m:List Gr.Stp): eqBy sameSt l m=true↔l.map Gr.cleanS=m.map Gr.cleanS:=by
 rw[eqBy_iff];constructor
 ·rintro⟨h1,h2⟩;refine List.ext_getElem (by simpa using h1) fun i hi hi2=>?_
  simp only[List.getElem_map];exact eqSt_true.1 (h2 i (by simpa using hi) (by simpa using hi2))
 ·intro h;have hl:l.length=m.length:=by have:=congrArg List.length h;simpa using this
  refine⟨hl,fun i hi hi2=>eqSt_true.2 ?_⟩;have h1:(l.map Gr.cleanS)[i]? = (m.map Gr.cleanS)[i]? :=by rw[h]
  rw[List.getElem?_map,List.getElem?_map,List.getElem?_eq_getElem hi,List.getElem?_eq_getElem hi2] at h1;simpa using h1
theorem exact_iff(l m:List Gr.Stp): eqBy eqSt l m=true↔l=m:=by
 rw[eqBy_iff];constructor
 ·rintro⟨h1,h2⟩;exact List.ext_getElem h1 fun i hi hi2=>eqSt_true.1 (h2 i hi hi2)
 ·rintro rfl;exact⟨rfl,fun i _ _=>eqSt_true.2 rfl⟩
theorem eqFnSame_any(v u:Value)(l m:List Gr.Stp)(w:World)(hv:StepsAt w v l)(hu:StepsAt w u m)(hs:∀s∈l,s.nd.frm.length≤1000∧s.nd.prog.length≤1000)(ht:∀s∈m,s.nd.frm.length≤1000∧s.nd.prog.length≤1000): Calls Tryz.prog 72 #[v,u,.func (.func 108) #[] #[]] w (Gives (.bool (eqBy sameSt l m)) w):=by
 have HV:=hY hv;have HU:=hY hu;have HSS:=hY hs;have HTT:=hY ht;obtain⟨a,cap,rfl,hm,-⟩:=hv.openC;obtain⟨a2,cap2,rfl,hm2,-⟩:=hu.openC;clear hv hu hs ht;by_cases hlen:l.length=m.length
 ·have hD2:((l.length:Int) != (m.length:Int))=false:=by rw[hlen];simp
  have HLEN:=hY hlen;clear hlen;go_enter Tryz.func72,Tryz.ntmps72;go_wp2
  go_loopg [17] l.length (fun gg s17 wr=>∃g:Nat,g≤l.length∧l.length-g≤gg∧s17 = .int .i64 g∧Hid (Grew w wr)∧Hid (UptoBy sameSt l m g))
  case atStart=>exact⟨0,by omega,by omega,rfl,hY gw,hY fun i _ _ h=>by omega⟩
  case round =>
   obtain⟨g,hg8,hgg,rfl,HGR,HNO⟩:=hrel;by_cases hlt:g<l.length
   ·have hlt2:g<m.length:=by have:=HLEN.o;omega
    obtain⟨av,cv,e,-,hx⟩:=(HV.o.grew HGR.o).openC;cases e;obtain⟨av2,cv2,e,-,hx2⟩:=(HU.o.grew HGR.o).openC;cases e;obtain⟨b,off,c,rfl,hb,hn,c0,c1,c2,c3,c4,c5,c6,c7,c8,c9,c10,c11,c12,c13,c14⟩:=hx g hlt;obtain⟨b2,off2,d,rfl,hb2,hn2,d0,d1,d2,d3,d4,d5,d6,d7,d8,d9,d10,d11,d12,d13,d14⟩:=hx2 g hlt2;have HS:=hY fun h=>HNO.o.succ hlt hlt2 h
    have HF:=hY fun h=>eqBy_no sameSt hlt hlt2 h
    have hy:=HSS.o _ (List.getElem_mem hlt);have hz:=HTT.o _ (List.getElem_mem hlt2);clear hx hx2;generalize l[g]=y at *;generalize m[g]=z at *;have HA:=hY fun W (g:Grew wr W)=>packSameS_any c d y z W (hn.grew g) (hn2.grew g) hy hz
    obtain⟨kd,rs,cid,kind,af,cf,ap,cp,par,r0,r1,r2,r3,r4,r5,r6,r7,rfl⟩:=hn.lit;obtain⟨kd2,rs2,cid2,kind2,af2,cf2,ap2,cp2,par2,s0,s1,s2,s3,s4,s5,s6,s7,rfl⟩:=hn2.lit;simp only at c0 c1 c2 c3 c4 c5 c6 c7 c8 c9 c10 c11 c12 c13 c14 d0 d1 d2 d3 d4 d5 d6 d7 d8 d9 d10 d11 d12 d13 d14;clear hn hn2 hy hz;cases hq:sameSt y z
    ·have HQ:=hY hq;have HFIN:=hY (HF.o hq);clear hq
     go_wp2_with (go_at_call 108;refine(HA.o _ gw).mono ?_;rintro e w1 ⟨rfl,R1,n1,rfl⟩;rw[HQ.o])
     go_ret;exact⟨by rw[HFIN.o];rfl,HGR.o.trans gw⟩
    ·have HQ:=hY hq;have HS2:=hY (HS.o hq);clear hq
     go_wp2_with (go_at_call 108;refine(HA.o _ gw).mono ?_;rintro e w1 ⟨rfl,R1,n1,rfl⟩;rw[HQ.o])
     go_roundg (l.length-(g+1))
     case measure=>omega
     case rel=>exact⟨g+1,by omega,by omega,by go_num,hY (HGR.o.trans gw),HS2⟩
   ·obtain rfl:g=l.length:=by omega
    have HFIN:=hY (HNO.o.eqBy HLEN.o);go_wp2;go_ret;exact⟨by rw[HFIN.o];rfl,HGR.o⟩
 ·have hD2:((l.length:Int) != (m.length:Int))=true:=by rw[bne_iff_ne];omega
  have HFIN:=hY (eqBy_len sameSt hlen);clear hlen;go_enter Tryz.func72,Tryz.ntmps72;go_wp2;go_ret;exact⟨by rw[HFIN.o];rfl,gw⟩
theorem eqFnExact_any(v u:Value)(l m:List Gr.Stp)(w:World)(hv:StepsAt w v l)(hu:StepsAt w u m)(hs:∀s∈l,s.nd.frm.length≤1000∧s.nd.prog.length≤1000)(ht:∀s∈m,s.nd.frm.length≤1000∧s.nd.prog.length≤1000): Calls Tryz.prog 72 #[v,u,.func (.func 73) #[] #[]] w (Gives (.bool (eqBy eqSt l m)) w):=by
 have HV:=hY hv;have HU:=hY hu;have HSS:=hY hs;have HTT:=hY ht;obtain⟨a,cap,rfl,hm,-⟩:=hv.openC;obtain⟨a2,cap2,rfl,hm2,-⟩:=hu.openC;clear hv hu hs ht;by_cases hlen:l.length=m.length
 ·have hD2:((l.length:Int) != (m.length:Int))=false:=by rw[hlen];simp
  have HLEN:=hY hlen;clear hlen;go_enter Tryz.func72,Tryz.ntmps72;go_wp2
  go_loopg [17] l.length (fun gg s17 wr=>∃g:Nat,g≤l.length∧l.length-g≤gg∧s17 = .int .i64 g∧Hid (Grew w wr)∧Hid (UptoBy eqSt l m g))
  case atStart=>exact⟨0,by omega,by omega,rfl,hY gw,hY fun i _ _ h=>by omega⟩
  case round =>
   obtain⟨g,hg8,hgg,rfl,HGR,HNO⟩:=hrel;by_cases hlt:g<l.length
   ·have hlt2:g<m.length:=by have:=HLEN.o;omega
    obtain⟨av,cv,e,-,hx⟩:=(HV.o.grew HGR.o).openC;cases e;obtain⟨av2,cv2,e,-,hx2⟩:=(HU.o.grew HGR.o).openC;cases e;obtain⟨b,off,c,rfl,hb,hn,c0,c1,c2,c3,c4,c5,c6,c7,c8,c9,c10,c11,c12,c13,c14⟩:=hx g hlt;obtain⟨b2,off2,d,rfl,hb2,hn2,d0,d1,d2,d3,d4,d5,d6,d7,d8,d9,d10,d11,d12,d13,d14⟩:=hx2 g hlt2;have HS:=hY fun h=>HNO.o.succ hlt hlt2 h
    have HF:=hY fun h=>eqBy_no eqSt hlt hlt2 h
    have hy:=HSS.o _ (List.getElem_mem hlt);have hz:=HTT.o _ (List.getElem_mem hlt2);clear hx hx2;generalize l[g]=y at *;generalize m[g]=z at *;have HA:=hY fun W (g:Grew wr W)=>exact_any c d y z W (hn.grew g) (hn2.grew g) hy hz
    obtain⟨kd,rs,cid,kind,af,cf,ap,cp,par,r0,r1,r2,r3,r4,r5,r6,r7,rfl⟩:=hn.lit;obtain⟨kd2,rs2,cid2,kind2,af2,cf2,ap2,cp2,par2,s0,s1,s2,s3,s4,s5,s6,s7,rfl⟩:=hn2.lit;simp only at c0 c1 c2 c3 c4 c5 c6 c7 c8 c9 c10 c11 c12 c13 c14 d0 d1 d2 d3 d4 d5 d6 d7 d8 d9 d10 d11 d12 d13 d14;clear hn hn2 hy hz;cases hq:eqSt y z
    ·have HQ:=hY hq;have HFIN:=hY (HF.o hq);clear hq
     go_wp2_with (go_at_call 73;refine(HA.o _ gw).mono ?_;rintro e w1 ⟨rfl,R1,n1,rfl⟩;rw[HQ.o])
     go_ret;exact⟨by rw[HFIN.o];rfl,HGR.o.trans gw⟩
    ·have HQ:=hY hq;have HS2:=hY (HS.o hq);clear hq
     go_wp2_with (go_at_call 73;refine(HA.o _ gw).mono ?_;rintro e w1 ⟨rfl,R1,n1,rfl⟩;rw[HQ.o])
     go_roundg (l.length-(g+1))
     case measure=>omega
     case rel=>exact⟨g+1,by omega,by omega,by go_num,hY (HGR.o.trans gw),HS2⟩
   ·obtain rfl:g=l.length:=by omega
    have HFIN:=hY (HNO.o.eqBy HLEN.o);go_wp2;go_ret;exact⟨by rw[HFIN.o];rfl,HGR.o⟩
 ·have hD2:((l.length:Int) != (m.length:Int))=true:=by rw[bne_iff_ne];omega
  have HFIN:=hY (eqBy_len eqSt hlen);clear hlen;go_enter Tryz.func72,Tryz.ntmps72;go_wp2;go_ret;exact⟨by rw[HFIN.o];rfl,gw⟩
theorem kept_any(v:Value)(p:List Gr.Stp)(t:List UInt8)(w:World)(hv:StepsAt w v p)(hs:∀s∈p,s.nd.frm.length≤1000∧s.nd.prog.length≤1000)(ht:t.length≤100000): Calls Tryz.prog 45 #[v,.string ⟨t.toArray⟩] w (Gives (.bool (eqBy sameSt p (Gr.getPl getL t).1)) w):=by
 have HV:=hY hv;have HS:=hY hs;have HG:=hY fun W=>getPlan_any t W ht
 have HT:=hY (getPl_small t);obtain⟨a,cap,rfl,hm,-⟩:=hv.openC;clear hv hs;generalize Gr.getPl getL t=r at *;obtain⟨q,er⟩:=r;simp only at HG HT ⊢;go_enter Tryz.func45,Tryz.ntmps45
 go_wp2_with (first
  | (go_at_call 44;refine(HG.o _).mono ?_;rintro e w1 ⟨v1,rfl,h1,hg1⟩;simp only at h1;obtain⟨a1,cap1,rfl,hm1,-⟩:=h1.openC;(have H1:=hY h1);obtain⟨R1,n1,rfl⟩:=hg1;clear h1)
  | (go_at_call 72;refine(eqFnSame_any _ _ p q _ (HV.o.grew gw) (H1.o.grew gw) HS.o HT.o).mono ?_;rintro e w1 ⟨rfl,R2,n2,rfl⟩))
 go_ret;refine⟨rfl,?_⟩;exact gw
end Go.Proofs.YtipgfjihdglocaaGreat
