import Derived.Test.YtgebkpgilgppgaaGreatMw11
import Derived.Test.YtgebkpgilgppgaaGreatMw5
import Derived.Test.YtgebkpgilgppgaaGreatMw9
import Derived.Deep.LoopGhost
import Derived.ChangeKeysEq
import Derived.Deep.QuietTactic
import Derived.BigQuiet
set_option linter.unusedSimpArgs false
set_option linter.unusedVariables false
set_option maxRecDepth 100000
set_option maxHeartbeats 64000000
namespace Go.Proofs.YtgebkpgilgppgaaGreat
open Go.RowKit Ga
def Qj{α:Type}(l:List α)(p:α→Bool)(w:World)(e:Ending)(w':World): Prop:=∃i:Int,e = .returned (.int .i64 i)∧decide (0≤i)=l.any p∧AA w w'
theorem Uw{α:Type}{l:List α}{p:α→Bool}{k:Nat}(hk:k<l.length)(h:p l[k]=true): l.any p=true:=List.any_eq_true.2 ⟨_,List.getElem_mem hk,h⟩
theorem M7{α:Type}{l:List α}{p:α→Bool}(h:∀i (hi:i<l.length),i<l.length→p l[i]=false): l.any p=false:=by
 rw[List.any_eq_false];intro x hx;obtain⟨i,hi,rfl⟩:=List.mem_iff_getElem.1 hx;rw[h i hi hi];simp
def Dp(x:Gr.Ln): List Value:=[.int .i64 x.sink,.int .i64 x.frm,.int .i64 x.key,.int .i64 x.v.1,.int .i64 x.v.2]
theorem Bt(x:Gr.Ln): (Dp x).length=5:=rfl
theorem JF(x:Gr.Ln): ∀u∈Dp x,u.oneCell'=true:=by
 intro u hu;simp[Dp] at hu;rcases hu with rfl|rfl|rfl|rfl|rfl<;>rfl
abbrev Hm(w:World)(v:Value)(l:List Gr.Ln): Prop:=AX 5 Dp w v l
theorem Hm.open5{w:World}{v:Value}{l:List Gr.Ln}(h:Hm w v l): ∃a cap,v = .slice a l.length cap∧l.length≤9223372036854775807∧∀i (hi:i<l.length),∃b off,a=some ⟨b,off,none⟩∧Ad b w ∧
  w.cell? ⟨b,off+i*5,none⟩=some (.int .i64 l[i].sink)∧w.cell? ⟨b,off+i*5+1,none⟩=some (.int .i64 l[i].frm)∧w.cell? ⟨b,off+i*5+2,none⟩=some (.int .i64 l[i].key)∧w.cell? ⟨b,off+i*5+3,none⟩=some (.int .i64 l[i].v.1)∧w.cell? ⟨b,off+i*5+4,none⟩=some (.int .i64 l[i].v.2):=by
 obtain⟨a,cap,rfl,hm,hx⟩:=h;refine⟨a,cap,rfl,by unfold maxLen at hm;omega,fun i hi=>?_⟩;obtain⟨b,off,rfl,hc⟩:=hx (by intro e;subst e;simp at hi);have hj:=fun j u=>hc i l[i] (List.getElem?_eq_getElem hi) j u
 have h0:=hj 0 _ rfl;exact⟨b,off,rfl,Ad.mk (World.block_lt_of_cell? w _ h0),h0,hj 1 _ rfl,hj 2 _ rfl,hj 3 _ rfl,hj 4 _ rfl⟩
theorem SV(B:Nat)(v:Value)(l:List Tab.En)(p:Tab.En→Bool)(w:World)(hv:Bp w v l)(hp:∀W x,x∈l→AA w W→Calls Tryz.prog 110 #[.agg #[.int .i64 x.node,.int .i64 x.key,.int .i64 x.c0.1,.int .i64 x.c0.2,.int .i64 x.c1.1,.int .i64 x.c1.2],.pointer (some ⟨B,0,none⟩)] W (Ac (.bool (p x)) W)): Calls Tryz.prog 137 #[v,.func (.func 110) #[] #[.pointer (some ⟨B,0,none⟩)]] w (Qj l p w):=by
 have HV:=hY hv;have HP:=hY hp;obtain⟨a,cap,rfl,hm,-⟩:=Bp.open6 hv;clear hv hp;go_enter Tryz.func137,Tryz.ntmps137;go_wp2
 go_loopg [8] l.length (fun gg s8 wr=>∃k:Nat,k≤l.length∧l.length-k≤gg∧s8 = .int .i64 k∧Hid (AA w wr)∧Hid (∀i (h:i<l.length),i<k→p l[i]=false))
 case atStart=>exact⟨0,by omega,by omega,rfl,hY gw,hY fun i _ h=>by omega⟩
 case round =>
  obtain⟨k,hk,hgg,rfl,HG,HNO⟩:=hrel;by_cases hlt:k<l.length
  ·obtain⟨a',cap',e,-,hx⟩:=Bp.open6 (HV.o.grew HG.o);cases e;obtain⟨b,off,rfl,hb,c0,c1,c2,c3,c4,c5⟩:=hx k hlt;have HANY:=hY fun h=>Uw (p:=p) hlt h
   have HNX:Hid (p l[k]=false→∀i (h:i<l.length),i<k+1→p l[i]=false):=hY fun h i hi h2=>(Nat.lt_or_ge i k).elim (HNO.o i hi) fun h3=>by
    obtain rfl:i=k:=by omega
    exact h
   have HC:=hY fun W (g:AA wr W)=>HP.o W _ (List.getElem_mem hlt) (HG.o.trans g)
   clear hx;generalize l[k]=x at *;cases hq:p x
   ·have HQ:=hY hq;have HNX2:=hY (HNX.o hq);clear hq
    go_wp2_with (go_at_call 110;refine(HC.o _ gw).mono ?_;rintro e w1 ⟨rfl,R1,n1,rfl⟩;rw[HQ.o])
    go_roundg (l.length-(k+1))
    case measure=>omega
    case rel=>exact⟨k+1,by omega,by omega,by go_num,hY (HG.o.trans gw),HNX2⟩
   ·have HQ:=hY hq;have HANY2:=hY (HANY.o hq);clear hq
    go_wp2_with (go_at_call 110;refine(HC.o _ gw).mono ?_;rintro e w1 ⟨rfl,R1,n1,rfl⟩;rw[HQ.o])
    go_ret;exact⟨k,rfl,by rw[HANY2.o];exact decide_eq_true (by omega),HG.o.trans gw⟩
  ·obtain rfl:k=l.length:=by omega
   have HANY:=hY (M7 (p:=p) HNO.o);go_wp2;go_ret;exact⟨-1,rfl,by rw[HANY.o];rfl,HG.o⟩
theorem M8(B:Nat)(v:Value)(l:List Tab.En)(p:Tab.En→Bool)(w:World)(hv:Bp w v l)(hp:∀W x,x∈l→AA w W→Calls Tryz.prog 110 #[.agg #[.int .i64 x.node,.int .i64 x.key,.int .i64 x.c0.1,.int .i64 x.c0.2,.int .i64 x.c1.1,.int .i64 x.c1.2],.pointer (some ⟨B,0,none⟩)] W (Ac (.bool (p x)) W)): Calls Tryz.prog 109 #[v,.func (.func 110) #[] #[.pointer (some ⟨B,0,none⟩)]] w (Ac (.bool (l.any p)) w):=by
 have HI:=hY (SV B v l p w hv hp);obtain⟨a,cap,rfl,hm,-⟩:=Bp.open6 hv;clear hv hp;go_enter Tryz.func109,Tryz.ntmps109
 go_wp2_with (go_at_call 137;refine HI.o.mono ?_;rintro e w1 ⟨i,rfl,hi,R1,n1,rfl⟩;(have HQ:=hY hi);clear hi)
 go_ret;exact⟨by rw[←HQ.o];rfl,gw⟩
theorem SX(v:Value)(l:List Int)(p:Int→Bool)(w:World)(hv:BO w v l)(hp:∀W x,x∈l→AA w W→Calls Tryz.prog 31 #[.int .i64 x] W (Ac (.bool (p x)) W)): Calls Tryz.prog 73 #[v,.func (.func 31) #[] #[]] w (Qj l p w):=by
 have HV:=hY hv;have HP:=hY hp;obtain⟨a,cap,rfl,hm,-⟩:=BJ hv;clear hv hp;go_enter Tryz.func73,Tryz.ntmps73;go_wp2
 go_loopg [8] l.length (fun gg s8 wr=>∃k:Nat,k≤l.length∧l.length-k≤gg∧s8 = .int .i64 k∧Hid (AA w wr)∧Hid (∀i (h:i<l.length),i<k→p l[i]=false))
 case atStart=>exact⟨0,by omega,by omega,rfl,hY gw,hY fun i _ h=>by omega⟩
 case round =>
  obtain⟨k,hk,hgg,rfl,HG,HNO⟩:=hrel;by_cases hlt:k<l.length
  ·obtain⟨a',cap',e,-,hx⟩:=BJ (HV.o.grew HG.o);cases e;obtain⟨b,off,rfl,hb,c0⟩:=hx k hlt;have HANY:=hY fun h=>Uw (p:=p) hlt h
   have HNX:Hid (p l[k]=false→∀i (h:i<l.length),i<k+1→p l[i]=false):=hY fun h i hi h2=>(Nat.lt_or_ge i k).elim (HNO.o i hi) fun h3=>by
    obtain rfl:i=k:=by omega
    exact h
   have HC:=hY fun W (g:AA wr W)=>HP.o W _ (List.getElem_mem hlt) (HG.o.trans g)
   clear hx;generalize l[k]=x at *;cases hq:p x
   ·have HQ:=hY hq;have HNX2:=hY (HNX.o hq);clear hq
    go_wp2_with (go_at_call 31;refine(HC.o _ gw).mono ?_;rintro e w1 ⟨rfl,R1,n1,rfl⟩;rw[HQ.o])
    go_roundg (l.length-(k+1))
    case measure=>omega
    case rel=>exact⟨k+1,by omega,by omega,by go_num,hY (HG.o.trans gw),HNX2⟩
   ·have HQ:=hY hq;have HANY2:=hY (HANY.o hq);clear hq
    go_wp2_with (go_at_call 31;refine(HC.o _ gw).mono ?_;rintro e w1 ⟨rfl,R1,n1,rfl⟩;rw[HQ.o])
    go_ret;exact⟨k,rfl,by rw[HANY2.o];exact decide_eq_true (by omega),HG.o.trans gw⟩
  ·obtain rfl:k=l.length:=by omega
   have HANY:=hY (M7 (p:=p) HNO.o);go_wp2;go_ret;exact⟨-1,rfl,by rw[HANY.o];rfl,HG.o⟩
theorem ED(v:Value)(l:List Int)(p:Int→Bool)(w:World)(hv:BO w v l)(hp:∀W x,x∈l→AA w W→Calls Tryz.prog 31 #[.int .i64 x] W (Ac (.bool (p x)) W)): Calls Tryz.prog 35 #[v,.func (.func 31) #[] #[]] w (Ac (.bool (l.any p)) w):=by
 have HI:=hY (SX v l p w hv hp);obtain⟨a,cap,rfl,hm,-⟩:=BJ hv;clear hv hp;go_enter Tryz.func35,Tryz.ntmps35
 go_wp2_with (go_at_call 73;refine HI.o.mono ?_;rintro e w1 ⟨i,rfl,hi,R1,n1,rfl⟩;(have HQ:=hY hi);clear hi)
 go_ret;exact⟨by rw[←HQ.o];rfl,gw⟩
theorem SY(v:Value)(l:List Gr.Ln)(p:Gr.Ln→Bool)(w:World)(hv:Hm w v l)(hp:∀W x,x∈l→AA w W→Calls Tryz.prog 32 #[.agg #[.int .i64 x.sink,.int .i64 x.frm,.int .i64 x.key,.int .i64 x.v.1,.int .i64 x.v.2]] W (Ac (.bool (p x)) W)): Calls Tryz.prog 77 #[v,.func (.func 32) #[] #[]] w (Qj l p w):=by
 have HV:=hY hv;have HP:=hY hp;obtain⟨a,cap,rfl,hm,-⟩:=Hm.open5 hv;clear hv hp;go_enter Tryz.func77,Tryz.ntmps77;go_wp2
 go_loopg [8] l.length (fun gg s8 wr=>∃k:Nat,k≤l.length∧l.length-k≤gg∧s8 = .int .i64 k∧Hid (AA w wr)∧Hid (∀i (h:i<l.length),i<k→p l[i]=false))
 case atStart=>exact⟨0,by omega,by omega,rfl,hY gw,hY fun i _ h=>by omega⟩
 case round =>
  obtain⟨k,hk,hgg,rfl,HG,HNO⟩:=hrel;by_cases hlt:k<l.length
  ·obtain⟨a',cap',e,-,hx⟩:=Hm.open5 (HV.o.grew HG.o);cases e;obtain⟨b,off,rfl,hb,c0,c1,c2,c3,c4⟩:=hx k hlt;have HANY:=hY fun h=>Uw (p:=p) hlt h
   have HNX:Hid (p l[k]=false→∀i (h:i<l.length),i<k+1→p l[i]=false):=hY fun h i hi h2=>(Nat.lt_or_ge i k).elim (HNO.o i hi) fun h3=>by
    obtain rfl:i=k:=by omega
    exact h
   have HC:=hY fun W (g:AA wr W)=>HP.o W _ (List.getElem_mem hlt) (HG.o.trans g)
   clear hx;generalize l[k]=x at *;cases hq:p x
   ·have HQ:=hY hq;have HNX2:=hY (HNX.o hq);clear hq
    go_wp2_with (go_at_call 32;refine(HC.o _ gw).mono ?_;rintro e w1 ⟨rfl,R1,n1,rfl⟩;rw[HQ.o])
    go_roundg (l.length-(k+1))
    case measure=>omega
    case rel=>exact⟨k+1,by omega,by omega,by go_num,hY (HG.o.trans gw),HNX2⟩
   ·have HQ:=hY hq;have HANY2:=hY (HANY.o hq);clear hq
    go_wp2_with (go_at_call 32;refine(HC.o _ gw).mono ?_;rintro e w1 ⟨rfl,R1,n1,rfl⟩;rw[HQ.o])
    go_ret;exact⟨k,rfl,by rw[HANY2.o];exact decide_eq_true (by omega),HG.o.trans gw⟩
  ·obtain rfl:k=l.length:=by omega
   have HANY:=hY (M7 (p:=p) HNO.o);go_wp2;go_ret;exact⟨-1,rfl,by rw[HANY.o];rfl,HG.o⟩
theorem IP(v:Value)(l:List Gr.Ln)(p:Gr.Ln→Bool)(w:World)(hv:Hm w v l)(hp:∀W x,x∈l→AA w W→Calls Tryz.prog 32 #[.agg #[.int .i64 x.sink,.int .i64 x.frm,.int .i64 x.key,.int .i64 x.v.1,.int .i64 x.v.2]] W (Ac (.bool (p x)) W)): Calls Tryz.prog 37 #[v,.func (.func 32) #[] #[]] w (Ac (.bool (l.any p)) w):=by
 have HI:=hY (SY v l p w hv hp);obtain⟨a,cap,rfl,hm,-⟩:=Hm.open5 hv;clear hv hp;go_enter Tryz.func37,Tryz.ntmps37
 go_wp2_with (go_at_call 77;refine HI.o.mono ?_;rintro e w1 ⟨i,rfl,hi,R1,n1,rfl⟩;(have HQ:=hY hi);clear hi)
 go_ret;exact⟨by rw[←HQ.o];rfl,gw⟩
structure Dy where
 epoch:Int
 plans:Int
 ao:Option Addr
 no:Nat
 co:Nat
 ag:Option Addr
 ng:Nat
 cg:Nat
 ae:Option Addr
 ne:Nat
 ce:Nat
 ax:Option Addr
 nx:Nat
 cx:Nat
 ap:Option Addr
 np:Nat
 cp:Nat
structure Dl (w:World) (c:Dy) (m:Gr.Mf):Prop where
 epoch:m.epoch=c.epoch
 plans:m.plans=c.plans
 o:BO w (.slice c.ao c.no c.co) m.offs
 g:AV w (.slice c.ag c.ng c.cg) m.graph
 e:Bp w (.slice c.ae c.ne c.ce) m.ents
 x:Hm w (.slice c.ax c.nx c.cx) m.out
 p:BA w (.slice c.ap c.np c.cp) m.plan
theorem Dl.grew{w w':World}{c:Dy}{m:Gr.Mf}(h:Dl w c m)(g:AA w w'): Dl w' c m:=⟨h.epoch,h.plans,h.o.grew g,h.g.grew g,h.e.grew g,h.x.grew g,h.p.grew g⟩
theorem Dl.lit{w:World}{c:Dy}{m:Gr.Mf}(h:Dl w c m): ∃ep pl ao co ag cg ae ce ax cx ap cp,c=⟨ep,pl,ao,m.offs.length,co,ag,m.graph.length,cg,ae,m.ents.length,ce,ax,m.out.length,cx,ap,m.plan.length,cp⟩:=by
 obtain⟨ep,pl,ao,no,co,ag,ng,cg,ae,ne,ce,ax,nx,cx,ap,np,cp⟩:=c;obtain⟨a1,c1,e1⟩:=h.o.len;obtain⟨a2,c2,e2,-⟩:=h.g.openC;obtain⟨a3,c3,e3⟩:=h.e.len;obtain⟨a4,c4,e4⟩:=h.x.len;obtain⟨a5,c5,e5,-⟩:=h.p.openC;simp only at e1 e2 e3 e4 e5;cases e1;cases e2;cases e3;cases e4;cases e5;exact⟨ep,pl,_,_,_,_,_,_,_,_,_,_,rfl⟩
open Classical in
theorem Pe(v u:Value)(l m:List Tab.En)(w:World)(hv:Bp w v l)(hu:Bp w u m): Calls Tryz.prog 75 #[v,u] w (Ac (.bool (decide (l=m))) w):=by
 have HV:=hY hv;have HU:=hY hu;obtain⟨a,cap,rfl,hm,-⟩:=Bp.open6 hv;obtain⟨a2,cap2,rfl,hm2,-⟩:=Bp.open6 hu;clear hv hu;by_cases hlen:l.length=m.length
 ·have hD2:((l.length:Int) != (m.length:Int))=false:=by rw[hlen];simp
  have HLEN:=hY hlen;clear hlen;go_enter Tryz.func75,Tryz.ntmps75;go_wp2
  go_loopg [13] l.length (fun gg s13 wr=>∃g:Nat,g≤l.length∧l.length-g≤gg∧s13 = .int .i64 g∧Hid (AA w wr)∧Hid (l.take g=m.take g))
  case atStart=>exact⟨0,by omega,by omega,rfl,hY gw,hY rfl⟩
  case round =>
   obtain⟨g,hg8,hgg,rfl,HGR,HNO⟩:=hrel;by_cases hlt:g<l.length
   ·have hlt2:g<m.length:=by have:=HLEN.o;omega
    obtain⟨av,cv,e,-,hx⟩:=Bp.open6 (HV.o.grew HGR.o);cases e;obtain⟨av2,cv2,e,-,hx2⟩:=Bp.open6 (HU.o.grew HGR.o);cases e;obtain⟨b,off,rfl,hb,c0,c1,c2,c3,c4,c5⟩:=hx g hlt;obtain⟨b2,off2,rfl,hb2,d0,d1,d2,d3,d4,d5⟩:=hx2 g hlt2;have hs:=EC hlt hlt2 HNO.o;have hf:=M6 hlt hlt2;have HS:=hY hs;have HF:=hY hf;clear hx hx2 hs hf;generalize l[g]=x at *;generalize m[g]=y at *;obtain⟨nd,ky,⟨p0,q0⟩,⟨p1,q1⟩⟩:=x;obtain⟨nd',ky',⟨p0',q0'⟩,⟨p1',q1'⟩⟩:=y;simp only at c0 c1 c2 c3 c4 c5 d0 d1 d2 d3 d4 d5;by_cases hr:nd=nd'∧ky=ky'∧p0=p0'∧q0=q0'∧p1=p1'∧q1=q1'
    ·obtain⟨rfl,rfl,rfl,rfl,rfl,rfl⟩:=hr;have hq:=MC nd ky p0 q0 p1 q1 nd ky p0 q0 p1 q1 false (by simp)
     go_upto_region 6 with fail
     go_quiet (fail)
     go_wp2
     go_roundg (l.length-(g+1))
     case measure=>omega
     case rel=>exact⟨g+1,by omega,by omega,by go_num,hY (HGR.o.trans gw),hY (HS.o (by first|exact rfl|trivial))⟩
    ·have HFIN:=hY (decide_eq_false (HF.o (fun e=>hr (by cases e;exact⟨rfl,rfl,rfl,rfl,rfl,rfl⟩))));have hq:=MC nd ky p0 q0 p1 q1 nd' ky' p0' q0' p1' q1' true (by rw[decide_eq_false hr];rfl);clear hr
     go_upto_region 6 with fail
     go_quiet (fail)
     go_wp2;go_ret;exact⟨by rw[HFIN.o];rfl,HGR.o.trans gw⟩
   ·obtain rfl:g=l.length:=by omega
    have hz:=HNO.o;rw[List.take_length,List.take_of_length_le (by have:=HLEN.o;omega)] at hz;have HFIN:=hY (decide_eq_true hz);clear hz;go_wp2;go_ret;exact⟨by rw[HFIN.o];rfl,HGR.o⟩
 ·have hD2:((l.length:Int) != (m.length:Int))=true:=by rw[bne_iff_ne];omega
  have HFIN:=hY (decide_eq_false (fun h:l=m=>hlen (by rw[h])));clear hlen;go_enter Tryz.func75,Tryz.ntmps75;go_wp2;go_ret;exact⟨by rw[HFIN.o];rfl,gw⟩
end Go.Proofs.YtgebkpgilgppgaaGreat
namespace Go.Proofs.YtgebkpgilgppgaaGreat
open Go.RowKit Ga Go.ChangeShapes Go.WideShapes
theorem Jt:Tryz.prog.cellsOf 51=2:=by kernel_rfl
theorem Na:Tryz.prog.cellsOf 52=4:=by kernel_rfl
theorem QA:Tryz.prog.cellsOf 57=6:=by kernel_rfl
theorem Nb:Tryz.prog.cellsOf 92=5:=by kernel_rfl
theorem Oy:Tryz.prog.cellsOf 23=1:=by kernel_rfl
theorem RD:Tryz.prog.cellsOf 24=1:=by kernel_rfl
theorem RF:Tryz.prog.cellsOf 26=1:=by kernel_rfl
theorem Ju:BQ Tryz.prog 51 (fun _ cs (a:Ga.Val)=>cs=[Value.int .i64 a.1,Value.int .i64 a.2]∧True):=by
 intro H enc w fuel cs x hx;obtain⟨hl,hf⟩:=BQ.fields Tryz.underlying51 hx;rw[Jt] at hl
 match cs,hl with
 |[c0,c1],_ =>
  obtain⟨n0,y0,h0⟩:=hf 0 _ rfl;obtain⟨n1,y1,h1⟩:=hf 1 _ rfl;have h0':DataW.trod enc Tryz.prog w 0 (fun _=>true) true n0 3 (([c0,c1].drop 0).take (Tryz.prog.cellsOf 3))=some y0:=h0;rw[CE] at h0';have h1':DataW.trod enc Tryz.prog w 0 (fun _=>true) true n1 3 (([c0,c1].drop 1).take (Tryz.prog.cellsOf 3))=some y1:=h1;rw[CE] at h1';obtain⟨i0,e0,-⟩:=BX H enc w n0 _ _ h0';obtain⟨i1,e1,-⟩:=BX H enc w n1 _ _ h1';simp at e0 e1;subst e0 e1;exact⟨(i0,i1),rfl,trivial⟩
theorem Vl:BQ Tryz.prog 52 (fun _ cs (a:Ga.Val×Ga.Val)=>cs=[Value.int .i64 a.1.1,Value.int .i64 a.1.2,Value.int .i64 a.2.1,Value.int .i64 a.2.2]∧True):=by
 intro H enc w fuel cs x hx;obtain⟨hl,hf⟩:=BQ.elems Tryz.underlying52 hx;rw[Na] at hl
 match cs,hl with
 |[c0,c1,c2,c3],_ =>
  obtain⟨m0,y0,h0⟩:=hf 0 (by decide);obtain⟨m1,y1,h1⟩:=hf 1 (by decide);rw[Jt] at h0 h1;obtain⟨a,e0,-⟩:=Ju H enc w m0 _ _ h0;obtain⟨b,e1,-⟩:=Ju H enc w m1 _ _ h1;simp at e0 e1;obtain⟨p0,p1⟩:=e0;obtain⟨p2,p3⟩:=e1;subst p0 p1 p2 p3;exact⟨(a,b),rfl,trivial⟩
theorem Yj:BQ Tryz.prog 57 (fun _ cs (x:Tab.En)=>cs=Ci x∧True):=by
 intro H enc w fuel cs x hx;obtain⟨hl,hf⟩:=BQ.fields Tryz.underlying57 hx;rw[QA] at hl
 match cs,hl with
 |[c0,c1,c2,c3,c4,c5],_ =>
  obtain⟨n0,y0,h0⟩:=hf 0 _ rfl;obtain⟨n1,y1,h1⟩:=hf 1 _ rfl;obtain⟨n2,y2,h2⟩:=hf 2 _ rfl;have h0':DataW.trod enc Tryz.prog w 0 (fun _=>true) true n0 3 (([c0,c1,c2,c3,c4,c5].drop 0).take (Tryz.prog.cellsOf 3))=some y0:=h0;rw[CE] at h0';have h1':DataW.trod enc Tryz.prog w 0 (fun _=>true) true n1 3 (([c0,c1,c2,c3,c4,c5].drop 1).take (Tryz.prog.cellsOf 3))=some y1:=h1;rw[CE] at h1';have h2':DataW.trod enc Tryz.prog w 0 (fun _=>true) true n2 52 (([c0,c1,c2,c3,c4,c5].drop 2).take (Tryz.prog.cellsOf 52))=some y2:=h2;rw[Na] at h2';obtain⟨i0,e0,-⟩:=BX H enc w n0 _ _ h0';obtain⟨i1,e1,-⟩:=BX H enc w n1 _ _ h1';obtain⟨⟨a,b⟩,e2,-⟩:=Vl H enc w n2 _ _ h2';simp at e0 e1 e2;obtain⟨p0,p1,p2,p3⟩:=e2;subst e0 e1 p0 p1 p2 p3;exact⟨⟨i0,i1,a,b⟩,rfl,trivial⟩
theorem Vn:BQ Tryz.prog 92 (fun _ cs (x:Gr.Ln)=>cs=Dp x∧True):=by
 intro H enc w fuel cs x hx;obtain⟨hl,hf⟩:=BQ.fields Tryz.underlying92 hx;rw[Nb] at hl
 match cs,hl with
 |[c0,c1,c2,c3,c4],_ =>
  obtain⟨n0,y0,h0⟩:=hf 0 _ rfl;obtain⟨n1,y1,h1⟩:=hf 1 _ rfl;obtain⟨n2,y2,h2⟩:=hf 2 _ rfl;obtain⟨n3,y3,h3⟩:=hf 3 _ rfl;have h0':DataW.trod enc Tryz.prog w 0 (fun _=>true) true n0 3 (([c0,c1,c2,c3,c4].drop 0).take (Tryz.prog.cellsOf 3))=some y0:=h0;rw[CE] at h0';have h1':DataW.trod enc Tryz.prog w 0 (fun _=>true) true n1 3 (([c0,c1,c2,c3,c4].drop 1).take (Tryz.prog.cellsOf 3))=some y1:=h1;rw[CE] at h1';have h2':DataW.trod enc Tryz.prog w 0 (fun _=>true) true n2 3 (([c0,c1,c2,c3,c4].drop 2).take (Tryz.prog.cellsOf 3))=some y2:=h2;rw[CE] at h2';have h3':DataW.trod enc Tryz.prog w 0 (fun _=>true) true n3 51 (([c0,c1,c2,c3,c4].drop 3).take (Tryz.prog.cellsOf 51))=some y3:=h3;rw[Jt] at h3';obtain⟨i0,e0,-⟩:=BX H enc w n0 _ _ h0';obtain⟨i1,e1,-⟩:=BX H enc w n1 _ _ h1';obtain⟨i2,e2,-⟩:=BX H enc w n2 _ _ h2';obtain⟨a,e3,-⟩:=Ju H enc w n3 _ _ h3';simp at e0 e1 e2 e3;obtain⟨p0,p1⟩:=e3;subst e0 e1 e2 p0 p1;exact⟨⟨i0,i1,i2,a⟩,rfl,trivial⟩
theorem slice_form{α:Type}{k:Nat}{Q:World→List Value→α→Prop}{w:World}{v:Value}{l:List α}(h:LW k Q w v l): ∃a cap,v = .slice a l.length cap:=by
 obtain⟨a,cap,rfl,-⟩:=h;exact⟨a,cap,rfl⟩
end Go.Proofs.YtgebkpgilgppgaaGreat
