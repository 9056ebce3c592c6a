import Derived.Test.YtipgfjihdglocaaGreatCq11
import Derived.Test.YtipgfjihdglocaaGreatCq5
import Derived.Test.YtipgfjihdglocaaGreatCq10
import Derived.Deep.LoopGhost
import Derived.ChangeKeysEq
import Derived.Deep.QuietTactic
import Derived.BigQuiet
set_option linter.unusedSimpArgs false
set_option linter.unusedVariables false
set_option maxRecDepth 100000
set_option maxHeartbeats 64000000
namespace Go.Proofs.YtipgfjihdglocaaGreat
open Go.RowKit Ga
def IdxPost{α:Type}(l:List α)(p:α→Bool)(w:World)(e:Ending)(w':World): Prop:=∃i:Int,e = .returned (.int .i64 i)∧decide (0≤i)=l.any p∧Grew w w'
theorem any_at{α:Type}{l:List α}{p:α→Bool}{k:Nat}(hk:k<l.length)(h:p l[k]=true): l.any p=true:=List.any_eq_true.2 ⟨_,List.getElem_mem hk,h⟩
theorem any_none{α:Type}{l:List α}{p:α→Bool}(h:∀i (hi:i<l.length),i<l.length→p l[i]=false): l.any p=false:=by
 rw[List.any_eq_false];intro x hx;obtain⟨i,hi,rfl⟩:=List.mem_iff_getElem.1 hx;rw[h i hi hi];simp
def encLn(x:Gr.Ln): List Value:=[.int .i64 x.sink,.int .i64 x.frm,.int .i64 x.key,.int .i64 x.v.1,.int .i64 x.v.2]
theorem encLn_len(x:Gr.Ln): (encLn x).length=5:=rfl
theorem encLn_one(x:Gr.Ln): ∀u∈encLn x,u.oneCell'=true:=by
 intro u hu;simp[encLn] at hu;rcases hu with rfl|rfl|rfl|rfl|rfl<;>rfl
abbrev LnsAt(w:World)(v:Value)(l:List Gr.Ln): Prop:=RowsAt 5 encLn w v l
theorem LnsAt.open5{w:World}{v:Value}{l:List Gr.Ln}(h:LnsAt w v l): ∃a cap,v = .slice a l.length cap∧l.length≤9223372036854775807∧∀i (hi:i<l.length),∃b off,a=some ⟨b,off,none⟩∧Pre b w ∧
  w.cell? ⟨b,off+i*5,none⟩=some (.int .i64 l[i].sink)∧w.cell? ⟨b,off+i*5+1,none⟩=some (.int .i64 l[i].frm)∧w.cell? ⟨b,off+i*5+2,none⟩=some (.int .i64 l[i].key)∧w.cell? ⟨b,off+i*5+3,none⟩=some (.int .i64 l[i].v.1)∧w.cell? ⟨b,off+i*5+4,none⟩=some (.int .i64 l[i].v.2):=by
 obtain⟨a,cap,rfl,hm,hx⟩:=h;refine⟨a,cap,rfl,by unfold maxLen at hm;omega,fun i hi=>?_⟩;obtain⟨b,off,rfl,hc⟩:=hx (by intro e;subst e;simp at hi);have hj:=fun j u=>hc i l[i] (List.getElem?_eq_getElem hi) j u
 have h0:=hj 0 _ rfl;exact⟨b,off,rfl,Pre.mk (World.block_lt_of_cell? w _ h0),h0,hj 1 _ rfl,hj 2 _ rfl,hj 3 _ rfl,hj 4 _ rfl⟩
theorem indexEn_any(B:Nat)(v:Value)(l:List Tab.En)(p:Tab.En→Bool)(w:World)(hv:EntsAt w v l)(hp:∀W x,x∈l→Grew w W→Calls Tryz.prog 215 #[.agg #[.int .i64 x.node,.int .i64 x.key,.int .i64 x.c0.1,.int .i64 x.c0.2,.int .i64 x.c1.1,.int .i64 x.c1.2],.pointer (some ⟨B,0,none⟩)] W (Gives (.bool (p x)) W)): Calls Tryz.prog 232 #[v,.func (.func 215) #[] #[.pointer (some ⟨B,0,none⟩)]] w (IdxPost l p w):=by
 have HV:=hY hv;have HP:=hY hp;obtain⟨a,cap,rfl,hm,-⟩:=EntsAt.open6 hv;clear hv hp;go_enter Tryz.func232,Tryz.ntmps232;go_wp2
 go_loopg [8] l.length (fun gg s8 wr=>∃k:Nat,k≤l.length∧l.length-k≤gg∧s8 = .int .i64 k∧Hid (Grew w wr)∧Hid (∀i (h:i<l.length),i<k→p l[i]=false))
 case atStart=>exact⟨0,by omega,by omega,rfl,hY gw,hY fun i _ h=>by omega⟩
 case round =>
  obtain⟨k,hk,hgg,rfl,HG,HNO⟩:=hrel;by_cases hlt:k<l.length
  ·obtain⟨a',cap',e,-,hx⟩:=EntsAt.open6 (HV.o.grew HG.o);cases e;obtain⟨b,off,rfl,hb,c0,c1,c2,c3,c4,c5⟩:=hx k hlt;have HANY:=hY fun h=>any_at (p:=p) hlt h
   have HNX:Hid (p l[k]=false→∀i (h:i<l.length),i<k+1→p l[i]=false):=hY fun h i hi h2=>(Nat.lt_or_ge i k).elim (HNO.o i hi) fun h3=>by
    obtain rfl:i=k:=by omega
    exact h
   have HC:=hY fun W (g:Grew wr W)=>HP.o W _ (List.getElem_mem hlt) (HG.o.trans g)
   clear hx;generalize l[k]=x at *;cases hq:p x
   ·have HQ:=hY hq;have HNX2:=hY (HNX.o hq);clear hq
    go_wp2_with (go_at_call 215;refine(HC.o _ gw).mono ?_;rintro e w1 ⟨rfl,R1,n1,rfl⟩;rw[HQ.o])
    go_roundg (l.length-(k+1))
    case measure=>omega
    case rel=>exact⟨k+1,by omega,by omega,by go_num,hY (HG.o.trans gw),HNX2⟩
   ·have HQ:=hY hq;have HANY2:=hY (HANY.o hq);clear hq
    go_wp2_with (go_at_call 215;refine(HC.o _ gw).mono ?_;rintro e w1 ⟨rfl,R1,n1,rfl⟩;rw[HQ.o])
    go_ret;exact⟨k,rfl,by rw[HANY2.o];exact decide_eq_true (by omega),HG.o.trans gw⟩
  ·obtain rfl:k=l.length:=by omega
   have HANY:=hY (any_none (p:=p) HNO.o);go_wp2;go_ret;exact⟨-1,rfl,by rw[HANY.o];rfl,HG.o⟩
theorem containsEn_any(B:Nat)(v:Value)(l:List Tab.En)(p:Tab.En→Bool)(w:World)(hv:EntsAt w v l)(hp:∀W x,x∈l→Grew w W→Calls Tryz.prog 215 #[.agg #[.int .i64 x.node,.int .i64 x.key,.int .i64 x.c0.1,.int .i64 x.c0.2,.int .i64 x.c1.1,.int .i64 x.c1.2],.pointer (some ⟨B,0,none⟩)] W (Gives (.bool (p x)) W)): Calls Tryz.prog 214 #[v,.func (.func 215) #[] #[.pointer (some ⟨B,0,none⟩)]] w (Gives (.bool (l.any p)) w):=by
 have HI:=hY (indexEn_any B v l p w hv hp);obtain⟨a,cap,rfl,hm,-⟩:=EntsAt.open6 hv;clear hv hp;go_enter Tryz.func214,Tryz.ntmps214
 go_wp2_with (go_at_call 232;refine HI.o.mono ?_;rintro e w1 ⟨i,rfl,hi,R1,n1,rfl⟩;(have HQ:=hY hi);clear hi)
 go_ret;exact⟨by rw[←HQ.o];rfl,gw⟩
theorem indexIn_any(v:Value)(l:List Int)(p:Int→Bool)(w:World)(hv:IntsAt w v l)(hp:∀W x,x∈l→Grew w W→Calls Tryz.prog 140 #[.int .i64 x] W (Gives (.bool (p x)) W)): Calls Tryz.prog 133 #[v,.func (.func 140) #[] #[]] w (IdxPost l p w):=by
 have HV:=hY hv;have HP:=hY hp;obtain⟨a,cap,rfl,hm,-⟩:=ints_open hv;clear hv hp;go_enter Tryz.func133,Tryz.ntmps133;go_wp2
 go_loopg [8] l.length (fun gg s8 wr=>∃k:Nat,k≤l.length∧l.length-k≤gg∧s8 = .int .i64 k∧Hid (Grew w wr)∧Hid (∀i (h:i<l.length),i<k→p l[i]=false))
 case atStart=>exact⟨0,by omega,by omega,rfl,hY gw,hY fun i _ h=>by omega⟩
 case round =>
  obtain⟨k,hk,hgg,rfl,HG,HNO⟩:=hrel;by_cases hlt:k<l.length
  ·obtain⟨a',cap',e,-,hx⟩:=ints_open (HV.o.grew HG.o);cases e;obtain⟨b,off,rfl,hb,c0⟩:=hx k hlt;have HANY:=hY fun h=>any_at (p:=p) hlt h
   have HNX:Hid (p l[k]=false→∀i (h:i<l.length),i<k+1→p l[i]=false):=hY fun h i hi h2=>(Nat.lt_or_ge i k).elim (HNO.o i hi) fun h3=>by
    obtain rfl:i=k:=by omega
    exact h
   have HC:=hY fun W (g:Grew wr W)=>HP.o W _ (List.getElem_mem hlt) (HG.o.trans g)
   clear hx;generalize l[k]=x at *;cases hq:p x
   ·have HQ:=hY hq;have HNX2:=hY (HNX.o hq);clear hq
    go_wp2_with (go_at_call 140;refine(HC.o _ gw).mono ?_;rintro e w1 ⟨rfl,R1,n1,rfl⟩;rw[HQ.o])
    go_roundg (l.length-(k+1))
    case measure=>omega
    case rel=>exact⟨k+1,by omega,by omega,by go_num,hY (HG.o.trans gw),HNX2⟩
   ·have HQ:=hY hq;have HANY2:=hY (HANY.o hq);clear hq
    go_wp2_with (go_at_call 140;refine(HC.o _ gw).mono ?_;rintro e w1 ⟨rfl,R1,n1,rfl⟩;rw[HQ.o])
    go_ret;exact⟨k,rfl,by rw[HANY2.o];exact decide_eq_true (by omega),HG.o.trans gw⟩
  ·obtain rfl:k=l.length:=by omega
   have HANY:=hY (any_none (p:=p) HNO.o);go_wp2;go_ret;exact⟨-1,rfl,by rw[HANY.o];rfl,HG.o⟩
theorem containsIn_any(v:Value)(l:List Int)(p:Int→Bool)(w:World)(hv:IntsAt w v l)(hp:∀W x,x∈l→Grew w W→Calls Tryz.prog 140 #[.int .i64 x] W (Gives (.bool (p x)) W)): Calls Tryz.prog 79 #[v,.func (.func 140) #[] #[]] w (Gives (.bool (l.any p)) w):=by
 have HI:=hY (indexIn_any v l p w hv hp);obtain⟨a,cap,rfl,hm,-⟩:=ints_open hv;clear hv hp;go_enter Tryz.func79,Tryz.ntmps79
 go_wp2_with (go_at_call 133;refine HI.o.mono ?_;rintro e w1 ⟨i,rfl,hi,R1,n1,rfl⟩;(have HQ:=hY hi);clear hi)
 go_ret;exact⟨by rw[←HQ.o];rfl,gw⟩
theorem indexLn_any(v:Value)(l:List Gr.Ln)(p:Gr.Ln→Bool)(w:World)(hv:LnsAt w v l)(hp:∀W x,x∈l→Grew w W→Calls Tryz.prog 141 #[.agg #[.int .i64 x.sink,.int .i64 x.frm,.int .i64 x.key,.int .i64 x.v.1,.int .i64 x.v.2]] W (Gives (.bool (p x)) W)): Calls Tryz.prog 188 #[v,.func (.func 141) #[] #[]] w (IdxPost l p w):=by
 have HV:=hY hv;have HP:=hY hp;obtain⟨a,cap,rfl,hm,-⟩:=LnsAt.open5 hv;clear hv hp;go_enter Tryz.func188,Tryz.ntmps188;go_wp2
 go_loopg [8] l.length (fun gg s8 wr=>∃k:Nat,k≤l.length∧l.length-k≤gg∧s8 = .int .i64 k∧Hid (Grew w wr)∧Hid (∀i (h:i<l.length),i<k→p l[i]=false))
 case atStart=>exact⟨0,by omega,by omega,rfl,hY gw,hY fun i _ h=>by omega⟩
 case round =>
  obtain⟨k,hk,hgg,rfl,HG,HNO⟩:=hrel;by_cases hlt:k<l.length
  ·obtain⟨a',cap',e,-,hx⟩:=LnsAt.open5 (HV.o.grew HG.o);cases e;obtain⟨b,off,rfl,hb,c0,c1,c2,c3,c4⟩:=hx k hlt;have HANY:=hY fun h=>any_at (p:=p) hlt h
   have HNX:Hid (p l[k]=false→∀i (h:i<l.length),i<k+1→p l[i]=false):=hY fun h i hi h2=>(Nat.lt_or_ge i k).elim (HNO.o i hi) fun h3=>by
    obtain rfl:i=k:=by omega
    exact h
   have HC:=hY fun W (g:Grew wr W)=>HP.o W _ (List.getElem_mem hlt) (HG.o.trans g)
   clear hx;generalize l[k]=x at *;cases hq:p x
   ·have HQ:=hY hq;have HNX2:=hY (HNX.o hq);clear hq
    go_wp2_with (go_at_call 141;refine(HC.o _ gw).mono ?_;rintro e w1 ⟨rfl,R1,n1,rfl⟩;rw[HQ.o])
    go_roundg (l.length-(k+1))
    case measure=>omega
    case rel=>exact⟨k+1,by omega,by omega,by go_num,hY (HG.o.trans gw),HNX2⟩
   ·have HQ:=hY hq;have HANY2:=hY (HANY.o hq);clear hq
    go_wp2_with (go_at_call 141;refine(HC.o _ gw).mono ?_;rintro e w1 ⟨rfl,R1,n1,rfl⟩;rw[HQ.o])
    go_ret;exact⟨k,rfl,by rw[HANY2.o];exact decide_eq_true (by omega),HG.o.trans gw⟩
  ·obtain rfl:k=l.length:=by omega
   have HANY:=hY (any_none (p:=p) HNO.o);go_wp2;go_ret;exact⟨-1,rfl,by rw[HANY.o];rfl,HG.o⟩
theorem containsLn_any(v:Value)(l:List Gr.Ln)(p:Gr.Ln→Bool)(w:World)(hv:LnsAt w v l)(hp:∀W x,x∈l→Grew w W→Calls Tryz.prog 141 #[.agg #[.int .i64 x.sink,.int .i64 x.frm,.int .i64 x.key,.int .i64 x.v.1,.int .i64 x.v.2]] W (Gives (.bool (p x)) W)): Calls Tryz.prog 145 #[v,.func (.func 141) #[] #[]] w (Gives (.bool (l.any p)) w):=by
 have HI:=hY (indexLn_any v l p w hv hp);obtain⟨a,cap,rfl,hm,-⟩:=LnsAt.open5 hv;clear hv hp;go_enter Tryz.func145,Tryz.ntmps145
 go_wp2_with (go_at_call 188;refine HI.o.mono ?_;rintro e w1 ⟨i,rfl,hi,R1,n1,rfl⟩;(have HQ:=hY hi);clear hi)
 go_ret;exact⟨by rw[←HQ.o];rfl,gw⟩
structure MfC where
 epoch:Int
 plans:Int
 ao:Option Addr
 no:Nat
 co:Nat
 ag:Option Addr
 ng:Nat
 cg:Nat
 ae:Option Addr
 ne:Nat
 ce:Nat
 ax:Option Addr
 nx:Nat
 cx:Nat
 ap:Option Addr
 np:Nat
 cp:Nat
structure MfIs (w:World) (c:MfC) (m:Gr.Mf):Prop where
 epoch:m.epoch=c.epoch
 plans:m.plans=c.plans
 o:IntsAt w (.slice c.ao c.no c.co) m.offs
 g:NodesAt w (.slice c.ag c.ng c.cg) m.graph
 e:EntsAt w (.slice c.ae c.ne c.ce) m.ents
 x:LnsAt w (.slice c.ax c.nx c.cx) m.out
 p:StepsAt w (.slice c.ap c.np c.cp) m.plan
theorem MfIs.grew{w w':World}{c:MfC}{m:Gr.Mf}(h:MfIs w c m)(g:Grew w w'): MfIs w' c m:=⟨h.epoch,h.plans,h.o.grew g,h.g.grew g,h.e.grew g,h.x.grew g,h.p.grew g⟩
theorem MfIs.lit{w:World}{c:MfC}{m:Gr.Mf}(h:MfIs w c m): ∃ep pl ao co ag cg ae ce ax cx ap cp,c=⟨ep,pl,ao,m.offs.length,co,ag,m.graph.length,cg,ae,m.ents.length,ce,ax,m.out.length,cx,ap,m.plan.length,cp⟩:=by
 obtain⟨ep,pl,ao,no,co,ag,ng,cg,ae,ne,ce,ax,nx,cx,ap,np,cp⟩:=c;obtain⟨a1,c1,e1⟩:=h.o.len;obtain⟨a2,c2,e2,-⟩:=h.g.openC;obtain⟨a3,c3,e3⟩:=h.e.len;obtain⟨a4,c4,e4⟩:=h.x.len;obtain⟨a5,c5,e5,-⟩:=h.p.openC;simp only at e1 e2 e3 e4 e5;cases e1;cases e2;cases e3;cases e4;cases e5;exact⟨ep,pl,_,_,_,_,_,_,_,_,_,_,rfl⟩
open Classical in
theorem eqEns_any(v u:Value)(l m:List Tab.En)(w:World)(hv:EntsAt w v l)(hu:EntsAt w u m): Calls Tryz.prog 70 #[v,u] w (Gives (.bool (decide (l=m))) w):=by
 have HV:=hY hv;have HU:=hY hu;obtain⟨a,cap,rfl,hm,-⟩:=EntsAt.open6 hv;obtain⟨a2,cap2,rfl,hm2,-⟩:=EntsAt.open6 hu;clear hv hu;by_cases hlen:l.length=m.length
 ·have hD2:((l.length:Int) != (m.length:Int))=false:=by rw[hlen];simp
  have HLEN:=hY hlen;clear hlen;go_enter Tryz.func70,Tryz.ntmps70;go_wp2
  go_loopg [13] l.length (fun gg s13 wr=>∃g:Nat,g≤l.length∧l.length-g≤gg∧s13 = .int .i64 g∧Hid (Grew w wr)∧Hid (l.take g=m.take g))
  case atStart=>exact⟨0,by omega,by omega,rfl,hY gw,hY rfl⟩
  case round =>
   obtain⟨g,hg8,hgg,rfl,HGR,HNO⟩:=hrel;by_cases hlt:g<l.length
   ·have hlt2:g<m.length:=by have:=HLEN.o;omega
    obtain⟨av,cv,e,-,hx⟩:=EntsAt.open6 (HV.o.grew HGR.o);cases e;obtain⟨av2,cv2,e,-,hx2⟩:=EntsAt.open6 (HU.o.grew HGR.o);cases e;obtain⟨b,off,rfl,hb,c0,c1,c2,c3,c4,c5⟩:=hx g hlt;obtain⟨b2,off2,rfl,hb2,d0,d1,d2,d3,d4,d5⟩:=hx2 g hlt2;have hs:=take_eq_succ hlt hlt2 HNO.o;have hf:=neq_at hlt hlt2;have HS:=hY hs;have HF:=hY hf;clear hx hx2 hs hf;generalize l[g]=x at *;generalize m[g]=y at *;obtain⟨nd,ky,⟨p0,q0⟩,⟨p1,q1⟩⟩:=x;obtain⟨nd',ky',⟨p0',q0'⟩,⟨p1',q1'⟩⟩:=y;simp only at c0 c1 c2 c3 c4 c5 d0 d1 d2 d3 d4 d5;by_cases hr:nd=nd'∧ky=ky'∧p0=p0'∧q0=q0'∧p1=p1'∧q1=q1'
    ·obtain⟨rfl,rfl,rfl,rfl,rfl,rfl⟩:=hr;have hq:=run_neq_Ens nd ky p0 q0 p1 q1 nd ky p0 q0 p1 q1 false (by simp)
     go_upto_region 6 with fail
     go_quiet (fail)
     go_wp2
     go_roundg (l.length-(g+1))
     case measure=>omega
     case rel=>exact⟨g+1,by omega,by omega,by go_num,hY (HGR.o.trans gw),hY (HS.o (by first|exact rfl|trivial))⟩
    ·have HFIN:=hY (decide_eq_false (HF.o (fun e=>hr (by cases e;exact⟨rfl,rfl,rfl,rfl,rfl,rfl⟩))));have hq:=run_neq_Ens nd ky p0 q0 p1 q1 nd' ky' p0' q0' p1' q1' true (by rw[decide_eq_false hr];rfl);clear hr
     go_upto_region 6 with fail
     go_quiet (fail)
     go_wp2;go_ret;exact⟨by rw[HFIN.o];rfl,HGR.o.trans gw⟩
   ·obtain rfl:g=l.length:=by omega
    have hz:=HNO.o;rw[List.take_length,List.take_of_length_le (by have:=HLEN.o;omega)] at hz;have HFIN:=hY (decide_eq_true hz);clear hz;go_wp2;go_ret;exact⟨by rw[HFIN.o];rfl,HGR.o⟩
 ·have hD2:((l.length:Int) != (m.length:Int))=true:=by rw[bne_iff_ne];omega
  have HFIN:=hY (decide_eq_false (fun h:l=m=>hlen (by rw[h])));clear hlen;go_enter Tryz.func70,Tryz.ntmps70;go_wp2;go_ret;exact⟨by rw[HFIN.o];rfl,gw⟩
end Go.Proofs.YtipgfjihdglocaaGreat
