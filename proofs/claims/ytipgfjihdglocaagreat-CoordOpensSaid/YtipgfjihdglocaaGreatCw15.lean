import Derived.Test.YtipgfjihdglocaaGreatCw11
import Derived.Test.YtipgfjihdglocaaGreatCw5
import Derived.Test.YtipgfjihdglocaaGreatCw9
import Derived.Deep.LoopGhost
import Derived.ChangeKeysEq
import Derived.Deep.QuietTactic
import Derived.BigQuiet
set_option linter.unusedSimpArgs false
set_option linter.unusedVariables false
set_option maxRecDepth 100000
set_option maxHeartbeats 64000000
namespace Go.Proofs.YtipgfjihdglocaaGreat
open Go.RowKit Ga
def IdxPost{α:Type}(l:List α)(p:α→Bool)(w:World)(e:Ending)(w':World): Prop:=∃i:Int,e = .returned (.int .i64 i)∧decide (0≤i)=l.any p∧Grew w w'
theorem any_at{α:Type}{l:List α}{p:α→Bool}{k:Nat}(hk:k<l.length)(h:p l[k]=true): l.any p=true:=List.any_eq_true.2 ⟨_,List.getElem_mem hk,h⟩
theorem any_none{α:Type}{l:List α}{p:α→Bool}(h:∀i (hi:i<l.length),i<l.length→p l[i]=false): l.any p=false:=by
 rw[List.any_eq_false];intro x hx;obtain⟨i,hi,rfl⟩:=List.mem_iff_getElem.1 hx;rw[h i hi hi];simp
def encLn(x:Gr.Ln): List Value:=[.int .i64 x.sink,.int .i64 x.frm,.int .i64 x.key,.int .i64 x.v.1,.int .i64 x.v.2]
theorem encLn_len(x:Gr.Ln): (encLn x).length=5:=rfl
theorem encLn_one(x:Gr.Ln): ∀u∈encLn x,u.oneCell'=true:=by
 intro u hu;simp[encLn] at hu;rcases hu with rfl|rfl|rfl|rfl|rfl<;>rfl
abbrev LnsAt(w:World)(v:Value)(l:List Gr.Ln): Prop:=RowsAt 5 encLn w v l
theorem LnsAt.open5{w:World}{v:Value}{l:List Gr.Ln}(h:LnsAt w v l): ∃a cap,v = .slice a l.length cap∧l.length≤9223372036854775807∧∀i (hi:i<l.length),∃b off,a=some ⟨b,off,none⟩∧Pre b w ∧
  w.cell? ⟨b,off+i*5,none⟩=some (.int .i64 l[i].sink)∧w.cell? ⟨b,off+i*5+1,none⟩=some (.int .i64 l[i].frm)∧w.cell? ⟨b,off+i*5+2,none⟩=some (.int .i64 l[i].key)∧w.cell? ⟨b,off+i*5+3,none⟩=some (.int .i64 l[i].v.1)∧w.cell? ⟨b,off+i*5+4,none⟩=some (.int .i64 l[i].v.2):=by
 obtain⟨a,cap,rfl,hm,hx⟩:=h;refine⟨a,cap,rfl,by unfold maxLen at hm;omega,fun i hi=>?_⟩;obtain⟨b,off,rfl,hc⟩:=hx (by intro e;subst e;simp at hi);have hj:=fun j u=>hc i l[i] (List.getElem?_eq_getElem hi) j u
 have h0:=hj 0 _ rfl;exact⟨b,off,rfl,Pre.mk (World.block_lt_of_cell? w _ h0),h0,hj 1 _ rfl,hj 2 _ rfl,hj 3 _ rfl,hj 4 _ rfl⟩
theorem indexEn_any(B:Nat)(v:Value)(l:List Tab.En)(p:Tab.En→Bool)(w:World)(hv:EntsAt w v l)(hp:∀W x,x∈l→Grew w W→Calls Tryz.prog 215 #[.agg #[.int .i64 x.node,.int .i64 x.key,.int .i64 x.c0.1,.int .i64 x.c0.2,.int .i64 x.c1.1,.int .i64 x.c1.2],.pointer (some ⟨B,0,none⟩)] W (Gives (.bool (p x)) W)): Calls Tryz.prog 232 #[v,.func (.func 215) #[] #[.pointer (some ⟨B,0,none⟩)]] w (IdxPost l p w):=by
 have HV:=hY hv;have HP:=hY hp;obtain⟨a,cap,rfl,hm,-⟩:=EntsAt.open6 hv;clear hv hp;go_enter Tryz.func232,Tryz.ntmps232;go_wp2
 go_loopg [8] l.length (fun gg s8 wr=>∃k:Nat,k≤l.length∧l.length-k≤gg∧s8 = .int .i64 k∧Hid (Grew w wr)∧Hid (∀i (h:i<l.length),i<k→p l[i]=false))
 case atStart=>exact⟨0,by omega,by omega,rfl,hY gw,hY fun i _ h=>by omega⟩
 case round =>
  obtain⟨k,hk,hgg,rfl,HG,HNO⟩:=hrel;by_cases hlt:k<l.length
  ·obtain⟨a',cap',e,-,hx⟩:=EntsAt.open6 (HV.o.grew HG.o);cases e;obtain⟨b,off,rfl,hb,c0,c1,c2,c3,c4,c5⟩:=hx k hlt;have HANY:=hY fun h=>any_at (p:=p) hlt h
   have HNX:Hid (p l[k]=false→∀i (h:i<l.length),i<k+1→p l[i]=false):=hY fun h i hi h2=>(Nat.lt_or_ge i k).elim (HNO.o i hi) fun h3=>by
    obtain rfl:i=k:=by omega
    exact h
   have HC:=hY fun W (g:Grew wr W)=>HP.o W _ (List.getElem_mem hlt) (HG.o.trans g)
   clear hx;generalize l[k]=x at *;cases hq:p x
   ·have HQ:=hY hq;have HNX2:=hY (HNX.o hq);clear hq
    go_wp2_with (go_at_call 215;refine(HC.o _ gw).mono ?_;rintro e w1 ⟨rfl,R1,n1,rfl⟩;rw[HQ.o])
    go_roundg (l.length-(k+1))
    case measure=>omega
    case rel=>exact⟨k+1,by omega,by omega,by go_num,hY (HG.o.trans gw),HNX2⟩
   ·have HQ:=hY hq;have HANY2:=hY (HANY.o hq);clear hq
    go_wp2_with (go_at_call 215;refine(HC.o _ gw).mono ?_;rintro e w1 ⟨rfl,R1,n1,rfl⟩;rw[HQ.o])
    go_ret;exact⟨k,rfl,by rw[HANY2.o];exact decide_eq_true (by omega),HG.o.trans gw⟩
  ·obtain rfl:k=l.length:=by omega
   have HANY:=hY (any_none (p:=p) HNO.o);go_wp2;go_ret;exact⟨-1,rfl,by rw[HANY.o];rfl,HG.o⟩
theorem containsEn_any(B:Nat)(v:Value)(l:List Tab.En)(p:Tab.En→Bool)(w:World)(hv:EntsAt w v l)(hp:∀W x,x∈l→Grew w W→Calls Tryz.prog 215 #[.agg #[.int .i64 x.node,.int .i64 x.key,.int .i64 x.c0.1,.int .i64 x.c0.2,.int .i64 x.c1.1,.int .i64 x.c1.2],.pointer (some ⟨B,0,none⟩)] W (Gives (.bool (p x)) W)): Calls Tryz.prog 214 #[v,.func (.func 215) #[] #[.pointer (some ⟨B,0,none⟩)]] w (Gives (.bool (l.any p)) w):=by
 have HI:=hY (indexEn_any B v l p w hv hp);obtain⟨a,cap,rfl,hm,-⟩:=EntsAt.open6 hv;clear hv hp;go_enter Tryz.func214,Tryz.ntmps214
 go_wp2_with (go_at_call 232;refine HI.o.mono ?_;rintro e w1 ⟨i,rfl,hi,R1,n1,rfl⟩;(have HQ:=hY hi);clear hi)
 go_ret;exact⟨by rw[←HQ.o];rfl,gw⟩
theorem indexIn_any(v:Value)(l:List Int)(p:Int→Bool)(w:World)(hv:IntsAt w v l)(hp:∀W x,x∈l→Grew w W→Calls Tryz.prog 140 #[.int .i64 x] W (Gives (.bool (p x)) W)): Calls Tryz.prog 133 #[v,.func (.func 140) #[] #[]] w (IdxPost l p w):=by
 have HV:=hY hv;have HP:=hY hp;obtain⟨a,cap,rfl,hm,-⟩:=ints_open hv;clear hv hp;go_enter Tryz.func133,Tryz.ntmps133;go_wp2
 go_loopg [8] l.length (fun gg s8 wr=>∃k:Nat,k≤l.length∧l.length-k≤gg∧s8 = .int .i64 k∧Hid (Grew w wr)∧Hid (∀i (h:i<l.length),i<k→p l[i]=false))
 case atStart=>exact⟨0,by omega,by omega,rfl,hY gw,hY fun i _ h=>by omega⟩
 case round =>
  obtain⟨k,hk,hgg,rfl,HG,HNO⟩:=hrel;by_cases hlt:k<l.length
  ·obtain⟨a',cap',e,-,hx⟩:=ints_open (HV.o.grew HG.o);cases e;obtain⟨b,off,rfl,hb,c0⟩:=hx k hlt;have HANY:=hY fun h=>any_at (p:=p) hlt h
   have HNX:Hid (p l[k]=false→∀i (h:i<l.length),i<k+1→p l[i]=false):=hY fun h i hi h2=>(Nat.lt_or_ge i k).elim (HNO.o i hi) fun h3=>by
    obtain rfl:i=k:=by omega
    exact h
   have HC:=hY fun W (g:Grew wr W)=>HP.o W _ (List.getElem_mem hlt) (HG.o.trans g)
   clear hx;generalize l[k]=x at *;cases hq:p x
   ·have HQ:=hY hq;have HNX2:=hY (HNX.o hq);clear hq
    go_wp2_with (go_at_call 140;refine(HC.o _ gw).mono ?_;rintro e w1 ⟨rfl,R1,n1,rfl⟩;rw[HQ.o])
    go_roundg (l.length-(k+1))
    case measure=>omega
    case rel=>exact⟨k+1,by omega,by omega,by go_num,hY (HG.o.trans gw),HNX2⟩
   ·have HQ:=hY hq;have HANY2:=hY (HANY.o hq);clear hq
    go_wp2_with (go_at_call 140;refine(HC.o _ gw).mono ?_;rintro e w1 ⟨rfl,R1,n1,rfl⟩;rw[HQ.o])
    go_ret;exact⟨k,rfl,by rw[HANY2.o];exact decide_eq_true (by omega),HG.o.trans gw⟩
  ·obtain rfl:k=l.length:=by omega
   have HANY:=hY (any_none (p:=p) HNO.o);go_wp2;go_ret;exact⟨-1,rfl,by rw[HANY.o];rfl,HG.o⟩
theorem containsIn_any(v:Value)(l:List Int)(p:Int→Bool)(w:World)(hv:IntsAt w v l)(hp:∀W x,x∈l→Grew w W→Calls Tryz.prog 140 #[.int .i64 x] W (Gives (.bool (p x)) W)): Calls Tryz.prog 79 #[v,.func (.func 140) #[] #[]] w (Gives (.bool (l.any p)) w):=by
 have HI:=hY (indexIn_any v l p w hv hp);obtain⟨a,cap,rfl,hm,-⟩:=ints_open hv;clear hv hp;go_enter Tryz.func79,Tryz.ntmps79
 go_wp2_with (go_at_call 133;refine HI.o.mono ?_;rintro e w1 ⟨i,rfl,hi,R1,n1,rfl⟩;(have HQ:=hY hi);clear hi)
 go_ret;exact⟨by rw[←HQ.o];rfl,gw⟩
theorem indexLn_any(v:Value)(l:List Gr.Ln)(p:Gr.Ln→Bool)(w:World)(hv:LnsAt w v l)(hp:∀W x,x∈l→Grew w W→Calls Tryz.prog 141 #[.agg #[.int .i64 x.sink,.int .i64 x.frm,.int .i64 x.key,.int .i64 x.v.1,.int .i64 x.v.2]] W (Gives (.bool (p x)) W)): Calls Tryz.prog 188 #[v,.func (.func 141) #[] #[]] w (IdxPost l p w):=by
 have HV:=hY hv;have HP:=hY hp;obtain⟨a,cap,rfl,hm,-⟩:=LnsAt.open5 hv;clear hv hp;go_enter Tryz.func188,Tryz.ntmps188;go_wp2
 go_loopg [8] l.length (fun gg s8 wr=>∃k:Nat,k≤l.length∧l.length-k≤gg∧s8 = .int .i64 k∧Hid (Grew w wr)∧Hid (∀i (h:i<l.length),i<k→p l[i]=false))
 case atStart=>exact⟨0,by omega,by omega,rfl,hY gw,hY fun i _ h=>by omega⟩
 case round =>
  obtain⟨k,hk,hgg,rfl,HG,HNO⟩:=hrel;by_cases hlt:k<l.length
  ·obtain⟨a',cap',e,-,hx⟩:=LnsAt.open5 (HV.o.grew HG.o);cases e;obtain⟨b,off,rfl,hb,c0,c1,c2,c3,c4⟩:=hx k hlt;have HANY:=hY fun h=>any_at (p:=p) hlt h
   have HNX:Hid (p l[k]=false→∀i (h:i<l.length),i<k+1→p l[i]=false):=hY fun h i hi h2=>(Nat.lt_or_ge i k).elim (HNO.o i hi) fun h3=>by
    obtain rfl:i=k:=by omega
    exact h
   have HC:=hY fun W (g:Grew wr W)=>HP.o W _ (List.getElem_mem hlt) (HG.o.trans g)
   clear hx;generalize l[k]=x at *;cases hq:p x
   ·have HQ:=hY hq;have HNX2:=hY (HNX.o hq);clear hq
    go_wp2_with (go_at_call 141;refine(HC.o _ gw).mono ?_;rintro e w1 ⟨rfl,R1,n1,rfl⟩;rw[HQ.o])
    go_roundg (l.length-(k+1))
    case measure=>omega
    case rel=>exact⟨k+1,by omega,by omega,by go_num,hY (HG.o.trans gw),HNX2⟩
   ·have HQ:=hY hq;have HANY2:=hY (HANY.o hq);clear hq
    go_wp2_with (go_at_call 141;refine(HC.o _ gw).mono ?_;rintro e w1 ⟨rfl,R1,n1,rfl⟩;rw[HQ.o])
    go_ret;exact⟨k,rfl,by rw[HANY2.o];exact decide_eq_true (by omega),HG.o.trans gw⟩
  ·obtain rfl:k=l.length:=by omega
   have HANY:=hY (any_none (p:=p) HNO.o);go_wp2;go_ret;exact⟨-1,rfl,by rw[HANY.o];rfl,HG.o⟩
theorem containsLn_any(v:Value)(l:List Gr.Ln)(p:Gr.Ln→Bool)(w:World)(hv:LnsAt w v l)(hp:∀W x,x∈l→Grew w W→Calls Tryz.prog 141 #[.agg #[.int .i64 x.sink,.int .i64 x.frm,.int .i64 x.key,.int .i64 x.v.1,.int .i64 x.v.2]] W (Gives (.bool (p x)) W)): Calls Tryz.prog 145 #[v,.func (.func 141) #[] #[]] w (Gives (.bool (l.any p)) w):=by
 have HI:=hY (indexLn_any v l p w hv hp);obtain⟨a,cap,rfl,hm,-⟩:=LnsAt.open5 hv;clear hv hp;go_enter Tryz.func145,Tryz.ntmps145
 go_wp2_with (go_at_call 188;refine HI.o.mono ?_;rintro e w1 ⟨i,rfl,hi,R1,n1,rfl⟩;(have HQ:=hY hi);clear hi)
 go_ret;exact⟨by rw[←HQ.o];rfl,gw⟩
structure MfC where
 epoch:Int
 plans:Int
 ao:Option Addr
 no:Nat
 co:Nat
 ag:Option Addr
 ng:Nat
 cg:Nat
 ae:Option Addr
 ne:Nat
 ce:Nat
 ax:Option Addr
 nx:Nat
 cx:Nat
 ap:Option Addr
 np:Nat
 cp:Nat
structure MfIs (w:World) (c:MfC) (m:Gr.Mf):Prop where
 epoch:m.epoch=c.epoch
 plans:m.plans=c.plans
 o:IntsAt w (.slice c.ao c.no c.co) m.offs
 g:NodesAt w (.slice c.ag c.ng c.cg) m.graph
 e:EntsAt w (.slice c.ae c.ne c.ce) m.ents
 x:LnsAt w (.slice c.ax c.nx c.cx) m.out
 p:StepsAt w (.slice c.ap c.np c.cp) m.plan
theorem MfIs.grew{w w':World}{c:MfC}{m:Gr.Mf}(h:MfIs w c m)(g:Grew w w'): MfIs w' c m:=⟨h.epoch,h.plans,h.o.grew g,h.g.grew g,h.e.grew g,h.x.grew g,h.p.grew g⟩
theorem MfIs.lit{w:World}{c:MfC}{m:Gr.Mf}(h:MfIs w c m): ∃ep pl ao co ag cg ae ce ax cx ap cp,c=⟨ep,pl,ao,m.offs.length,co,ag,m.graph.length,cg,ae,m.ents.length,ce,ax,m.out.length,cx,ap,m.plan.length,cp⟩:=by
 obtain⟨ep,pl,ao,no,co,ag,ng,cg,ae,ne,ce,ax,nx,cx,ap,np,cp⟩:=c;obtain⟨a1,c1,e1⟩:=h.o.len;obtain⟨a2,c2,e2,-⟩:=h.g.openC;obtain⟨a3,c3,e3⟩:=h.e.len;obtain⟨a4,c4,e4⟩:=h.x.len;obtain⟨a5,c5,e5,-⟩:=h.p.openC;simp only at e1 e2 e3 e4 e5;cases e1;cases e2;cases e3;cases e4;cases e5;exact⟨ep,pl,_,_,_,_,_,_,_,_,_,_,rfl⟩
theorem run_neq_Lns(si fr ky p0 q0 si' fr' ky' p0' q0':Int)(r:Bool)(h:(!(decide (si=si'∧fr=fr'∧ky=ky'∧p0=p0'∧q0=q0')))=r)(w:World): (binOp .neq 122 (.agg #[.int .i64 si,.int .i64 fr,.int .i64 ky,.int .i64 p0,.int .i64 q0]) (.agg #[.int .i64 si',.int .i64 fr',.int .i64 ky',.int .i64 p0',.int .i64 q0'])).run Tryz.prog w = .ok (.bool r) w:=by
 subst h;simp[go_sem,val_eq,Tryz.underlying122,Tryz.underlying3];by_cases h0:si=si'<;>by_cases h1:fr=fr'<;>by_cases h2:ky=ky'<;>by_cases h3:p0=p0'<;>by_cases h4:q0=q0'<;>simp[h0,h1,h2,h3,h4]
open Classical in
theorem eqEns_any(v u:Value)(l m:List Tab.En)(w:World)(hv:EntsAt w v l)(hu:EntsAt w u m): Calls Tryz.prog 70 #[v,u] w (Gives (.bool (decide (l=m))) w):=by
 have HV:=hY hv;have HU:=hY hu;obtain⟨a,cap,rfl,hm,-⟩:=EntsAt.open6 hv;obtain⟨a2,cap2,rfl,hm2,-⟩:=EntsAt.open6 hu;clear hv hu;by_cases hlen:l.length=m.length
 ·have hD2:((l.length:Int) != (m.length:Int))=false:=by rw[hlen];simp
  have HLEN:=hY hlen;clear hlen;go_enter Tryz.func70,Tryz.ntmps70;go_wp2
  go_loopg [13] l.length (fun gg s13 wr=>∃g:Nat,g≤l.length∧l.length-g≤gg∧s13 = .int .i64 g∧Hid (Grew w wr)∧Hid (l.take g=m.take g))
  case atStart=>exact⟨0,by omega,by omega,rfl,hY gw,hY rfl⟩
  case round =>
   obtain⟨g,hg8,hgg,rfl,HGR,HNO⟩:=hrel;by_cases hlt:g<l.length
   ·have hlt2:g<m.length:=by have:=HLEN.o;omega
    obtain⟨av,cv,e,-,hx⟩:=EntsAt.open6 (HV.o.grew HGR.o);cases e;obtain⟨av2,cv2,e,-,hx2⟩:=EntsAt.open6 (HU.o.grew HGR.o);cases e;obtain⟨b,off,rfl,hb,c0,c1,c2,c3,c4,c5⟩:=hx g hlt;obtain⟨b2,off2,rfl,hb2,d0,d1,d2,d3,d4,d5⟩:=hx2 g hlt2;have hs:=take_eq_succ hlt hlt2 HNO.o;have hf:=neq_at hlt hlt2;have HS:=hY hs;have HF:=hY hf;clear hx hx2 hs hf;generalize l[g]=x at *;generalize m[g]=y at *;obtain⟨nd,ky,⟨p0,q0⟩,⟨p1,q1⟩⟩:=x;obtain⟨nd',ky',⟨p0',q0'⟩,⟨p1',q1'⟩⟩:=y;simp only at c0 c1 c2 c3 c4 c5 d0 d1 d2 d3 d4 d5;by_cases hr:nd=nd'∧ky=ky'∧p0=p0'∧q0=q0'∧p1=p1'∧q1=q1'
    ·obtain⟨rfl,rfl,rfl,rfl,rfl,rfl⟩:=hr;have hq:=run_neq_Ens nd ky p0 q0 p1 q1 nd ky p0 q0 p1 q1 false (by simp)
     go_upto_region 6 with fail
     go_quiet (fail)
     go_wp2
     go_roundg (l.length-(g+1))
     case measure=>omega
     case rel=>exact⟨g+1,by omega,by omega,by go_num,hY (HGR.o.trans gw),hY (HS.o (by first|exact rfl|trivial))⟩
    ·have HFIN:=hY (decide_eq_false (HF.o (fun e=>hr (by cases e;exact⟨rfl,rfl,rfl,rfl,rfl,rfl⟩))));have hq:=run_neq_Ens nd ky p0 q0 p1 q1 nd' ky' p0' q0' p1' q1' true (by rw[decide_eq_false hr];rfl);clear hr
     go_upto_region 6 with fail
     go_quiet (fail)
     go_wp2;go_ret;exact⟨by rw[HFIN.o];rfl,HGR.o.trans gw⟩
   ·obtain rfl:g=l.length:=by omega
    have hz:=HNO.o;rw[List.take_length,List.take_of_length_le (by have:=HLEN.o;omega)] at hz;have HFIN:=hY (decide_eq_true hz);clear hz;go_wp2;go_ret;exact⟨by rw[HFIN.o];rfl,HGR.o⟩
 ·have hD2:((l.length:Int) != (m.length:Int))=true:=by rw[bne_iff_ne];omega
  have HFIN:=hY (decide_eq_false (fun h:l=m=>hlen (by rw[h])));clear hlen;go_enter Tryz.func70,Tryz.ntmps70;go_wp2;go_ret;exact⟨by rw[HFIN.o];rfl,gw⟩
open Classical in
theorem eqLns_any(v u:Value)(l m:List Gr.Ln)(w:World)(hv:LnsAt w v l)(hu:LnsAt w u m): Calls Tryz.prog 71 #[v,u] w (Gives (.bool (decide (l=m))) w):=by
 have HV:=hY hv;have HU:=hY hu;obtain⟨a,cap,rfl,hm,-⟩:=LnsAt.open5 hv;obtain⟨a2,cap2,rfl,hm2,-⟩:=LnsAt.open5 hu;clear hv hu;by_cases hlen:l.length=m.length
 ·have hD2:((l.length:Int) != (m.length:Int))=false:=by rw[hlen];simp
  have HLEN:=hY hlen;clear hlen;go_enter Tryz.func71,Tryz.ntmps71;go_wp2
  go_loopg [13] l.length (fun gg s13 wr=>∃g:Nat,g≤l.length∧l.length-g≤gg∧s13 = .int .i64 g∧Hid (Grew w wr)∧Hid (l.take g=m.take g))
  case atStart=>exact⟨0,by omega,by omega,rfl,hY gw,hY rfl⟩
  case round =>
   obtain⟨g,hg8,hgg,rfl,HGR,HNO⟩:=hrel;by_cases hlt:g<l.length
   ·have hlt2:g<m.length:=by have:=HLEN.o;omega
    obtain⟨av,cv,e,-,hx⟩:=LnsAt.open5 (HV.o.grew HGR.o);cases e;obtain⟨av2,cv2,e,-,hx2⟩:=LnsAt.open5 (HU.o.grew HGR.o);cases e;obtain⟨b,off,rfl,hb,c0,c1,c2,c3,c4⟩:=hx g hlt;obtain⟨b2,off2,rfl,hb2,d0,d1,d2,d3,d4⟩:=hx2 g hlt2;have hs:=take_eq_succ hlt hlt2 HNO.o;have hf:=neq_at hlt hlt2;have HS:=hY hs;have HF:=hY hf;clear hx hx2 hs hf;generalize l[g]=x at *;generalize m[g]=y at *;obtain⟨si,fr,ky,⟨p0,q0⟩⟩:=x;obtain⟨si',fr',ky',⟨p0',q0'⟩⟩:=y;simp only at c0 c1 c2 c3 c4 d0 d1 d2 d3 d4;by_cases hr:si=si'∧fr=fr'∧ky=ky'∧p0=p0'∧q0=q0'
    ·obtain⟨rfl,rfl,rfl,rfl,rfl⟩:=hr;have hq:=run_neq_Lns si fr ky p0 q0 si fr ky p0 q0 false (by simp)
     go_upto_region 6 with fail
     go_quiet (fail)
     go_wp2
     go_roundg (l.length-(g+1))
     case measure=>omega
     case rel=>exact⟨g+1,by omega,by omega,by go_num,hY (HGR.o.trans gw),hY (HS.o (by first|exact rfl|trivial))⟩
    ·have HFIN:=hY (decide_eq_false (HF.o (fun e=>hr (by cases e;exact⟨rfl,rfl,rfl,rfl,rfl⟩))));have hq:=run_neq_Lns si fr ky p0 q0 si' fr' ky' p0' q0' true (by rw[decide_eq_false hr];rfl);clear hr
     go_upto_region 6 with fail
     go_quiet (fail)
     go_wp2;go_ret;exact⟨by rw[HFIN.o];rfl,HGR.o.trans gw⟩
   ·obtain rfl:g=l.length:=by omega
    have hz:=HNO.o;rw[List.take_length,List.take_of_length_le (by have:=HLEN.o;omega)] at hz;have HFIN:=hY (decide_eq_true hz);clear hz;go_wp2;go_ret;exact⟨by rw[HFIN.o];rfl,HGR.o⟩
 ·have hD2:((l.length:Int) != (m.length:Int))=true:=by rw[bne_iff_ne];omega
  have HFIN:=hY (decide_eq_false (fun h:l=m=>hlen (by rw[h])));clear hlen;go_enter Tryz.func71,Tryz.ntmps71;go_wp2;go_ret;exact⟨by rw[HFIN.o];rfl,gw⟩
end Go.Proofs.YtipgfjihdglocaaGreat
namespace Go.Proofs.YtipgfjihdglocaaGreat
open Go.RowKit Ga Go.ChangeShapes Go.WideShapes
theorem cells_valM:Tryz.prog.cellsOf 112=2:=by kernel_rfl
theorem cells_val2:Tryz.prog.cellsOf 113=4:=by kernel_rfl
theorem cells_ent:Tryz.prog.cellsOf 115=6:=by kernel_rfl
theorem cells_line:Tryz.prog.cellsOf 122=5:=by kernel_rfl
theorem cells_man:Tryz.prog.cellsOf 47=7:=by kernel_rfl
theorem cells_slNode:Tryz.prog.cellsOf 22=1:=by kernel_rfl
theorem cells_slEntry:Tryz.prog.cellsOf 44=1:=by kernel_rfl
theorem cells_slLine:Tryz.prog.cellsOf 45=1:=by kernel_rfl
theorem cells_slStep:Tryz.prog.cellsOf 34=1:=by kernel_rfl
theorem opens_valM:Opens Tryz.prog 112 (fun _ cs (a:Ga.Val)=>cs=[Value.int .i64 a.1,Value.int .i64 a.2]∧True):=by
 intro H enc w fuel cs x hx;obtain⟨hl,hf⟩:=Opens.fields Tryz.underlying112 hx;rw[cells_valM] at hl
 match cs,hl with
 |[c0,c1],_ =>
  obtain⟨n0,y0,h0⟩:=hf 0 _ rfl;obtain⟨n1,y1,h1⟩:=hf 1 _ rfl;have h0':DataW.trod enc Tryz.prog w 0 (fun _=>true) true n0 3 (([c0,c1].drop 0).take (Tryz.prog.cellsOf 3))=some y0:=h0;rw[cells_int1] at h0';have h1':DataW.trod enc Tryz.prog w 0 (fun _=>true) true n1 3 (([c0,c1].drop 1).take (Tryz.prog.cellsOf 3))=some y1:=h1;rw[cells_int1] at h1';obtain⟨i0,e0,-⟩:=opens_int1 H enc w n0 _ _ h0';obtain⟨i1,e1,-⟩:=opens_int1 H enc w n1 _ _ h1';simp at e0 e1;subst e0 e1;exact⟨(i0,i1),rfl,trivial⟩
theorem opens_val2:Opens Tryz.prog 113 (fun _ cs (a:Ga.Val×Ga.Val)=>cs=[Value.int .i64 a.1.1,Value.int .i64 a.1.2,Value.int .i64 a.2.1,Value.int .i64 a.2.2]∧True):=by
 intro H enc w fuel cs x hx;obtain⟨hl,hf⟩:=Opens.elems Tryz.underlying113 hx;rw[cells_val2] at hl
 match cs,hl with
 |[c0,c1,c2,c3],_ =>
  obtain⟨m0,y0,h0⟩:=hf 0 (by decide);obtain⟨m1,y1,h1⟩:=hf 1 (by decide);rw[cells_valM] at h0 h1;obtain⟨a,e0,-⟩:=opens_valM H enc w m0 _ _ h0;obtain⟨b,e1,-⟩:=opens_valM H enc w m1 _ _ h1;simp at e0 e1;obtain⟨p0,p1⟩:=e0;obtain⟨p2,p3⟩:=e1;subst p0 p1 p2 p3;exact⟨(a,b),rfl,trivial⟩
theorem opens_ent:Opens Tryz.prog 115 (fun _ cs (x:Tab.En)=>cs=encEn x∧True):=by
 intro H enc w fuel cs x hx;obtain⟨hl,hf⟩:=Opens.fields Tryz.underlying115 hx;rw[cells_ent] at hl
 match cs,hl with
 |[c0,c1,c2,c3,c4,c5],_ =>
  obtain⟨n0,y0,h0⟩:=hf 0 _ rfl;obtain⟨n1,y1,h1⟩:=hf 1 _ rfl;obtain⟨n2,y2,h2⟩:=hf 2 _ rfl;have h0':DataW.trod enc Tryz.prog w 0 (fun _=>true) true n0 3 (([c0,c1,c2,c3,c4,c5].drop 0).take (Tryz.prog.cellsOf 3))=some y0:=h0;rw[cells_int1] at h0';have h1':DataW.trod enc Tryz.prog w 0 (fun _=>true) true n1 3 (([c0,c1,c2,c3,c4,c5].drop 1).take (Tryz.prog.cellsOf 3))=some y1:=h1;rw[cells_int1] at h1';have h2':DataW.trod enc Tryz.prog w 0 (fun _=>true) true n2 113 (([c0,c1,c2,c3,c4,c5].drop 2).take (Tryz.prog.cellsOf 113))=some y2:=h2;rw[cells_val2] at h2';obtain⟨i0,e0,-⟩:=opens_int1 H enc w n0 _ _ h0';obtain⟨i1,e1,-⟩:=opens_int1 H enc w n1 _ _ h1';obtain⟨⟨a,b⟩,e2,-⟩:=opens_val2 H enc w n2 _ _ h2';simp at e0 e1 e2;obtain⟨p0,p1,p2,p3⟩:=e2;subst e0 e1 p0 p1 p2 p3;exact⟨⟨i0,i1,a,b⟩,rfl,trivial⟩
theorem opens_line:Opens Tryz.prog 122 (fun _ cs (x:Gr.Ln)=>cs=encLn x∧True):=by
 intro H enc w fuel cs x hx;obtain⟨hl,hf⟩:=Opens.fields Tryz.underlying122 hx;rw[cells_line] at hl
 match cs,hl with
 |[c0,c1,c2,c3,c4],_ =>
  obtain⟨n0,y0,h0⟩:=hf 0 _ rfl;obtain⟨n1,y1,h1⟩:=hf 1 _ rfl;obtain⟨n2,y2,h2⟩:=hf 2 _ rfl;obtain⟨n3,y3,h3⟩:=hf 3 _ rfl;have h0':DataW.trod enc Tryz.prog w 0 (fun _=>true) true n0 3 (([c0,c1,c2,c3,c4].drop 0).take (Tryz.prog.cellsOf 3))=some y0:=h0;rw[cells_int1] at h0';have h1':DataW.trod enc Tryz.prog w 0 (fun _=>true) true n1 3 (([c0,c1,c2,c3,c4].drop 1).take (Tryz.prog.cellsOf 3))=some y1:=h1;rw[cells_int1] at h1';have h2':DataW.trod enc Tryz.prog w 0 (fun _=>true) true n2 3 (([c0,c1,c2,c3,c4].drop 2).take (Tryz.prog.cellsOf 3))=some y2:=h2;rw[cells_int1] at h2';have h3':DataW.trod enc Tryz.prog w 0 (fun _=>true) true n3 112 (([c0,c1,c2,c3,c4].drop 3).take (Tryz.prog.cellsOf 112))=some y3:=h3;rw[cells_valM] at h3';obtain⟨i0,e0,-⟩:=opens_int1 H enc w n0 _ _ h0';obtain⟨i1,e1,-⟩:=opens_int1 H enc w n1 _ _ h1';obtain⟨i2,e2,-⟩:=opens_int1 H enc w n2 _ _ h2';obtain⟨a,e3,-⟩:=opens_valM H enc w n3 _ _ h3';simp at e0 e1 e2 e3;obtain⟨p0,p1⟩:=e3;subst e0 e1 e2 p0 p1;exact⟨⟨i0,i1,i2,a⟩,rfl,trivial⟩
theorem slice_form{α:Type}{k:Nat}{Q:World→List Value→α→Prop}{w:World}{v:Value}{l:List α}(h:SlAt k Q w v l): ∃a cap,v = .slice a l.length cap:=by
 obtain⟨a,cap,rfl,-⟩:=h;exact⟨a,cap,rfl⟩
theorem opens_man:Opens Tryz.prog 47 (fun w cs (x:MfC×Gr.Mf)=>cs=[Value.int .i64 x.1.epoch,Value.int .i64 x.1.plans,.slice x.1.ao x.1.no x.1.co,.slice x.1.ag x.1.ng x.1.cg,.slice x.1.ae x.1.ne x.1.ce,.slice x.1.ax x.1.nx x.1.cx,.slice x.1.ap x.1.np x.1.cp]∧MfIs w x.1 x.2):=by
 intro H enc w fuel cs x hx;obtain⟨hl,hf⟩:=Opens.fields Tryz.underlying47 hx;rw[cells_man] at hl
 match cs,hl with
 |[c0,c1,c2,c3,c4,c5,c6],_ =>
  obtain⟨n0,y0,h0⟩:=hf 0 _ rfl;obtain⟨n1,y1,h1⟩:=hf 1 _ rfl;obtain⟨n2,y2,h2⟩:=hf 2 _ rfl;obtain⟨n3,y3,h3⟩:=hf 3 _ rfl;obtain⟨n4,y4,h4⟩:=hf 4 _ rfl;obtain⟨n5,y5,h5⟩:=hf 5 _ rfl;obtain⟨n6,y6,h6⟩:=hf 6 _ rfl;have h0':DataW.trod enc Tryz.prog w 0 (fun _=>true) true n0 3 (([c0,c1,c2,c3,c4,c5,c6].drop 0).take (Tryz.prog.cellsOf 3))=some y0:=h0;rw[cells_int1] at h0';have h1':DataW.trod enc Tryz.prog w 0 (fun _=>true) true n1 3 (([c0,c1,c2,c3,c4,c5,c6].drop 1).take (Tryz.prog.cellsOf 3))=some y1:=h1;rw[cells_int1] at h1';have h2':DataW.trod enc Tryz.prog w 0 (fun _=>true) true n2 43 (([c0,c1,c2,c3,c4,c5,c6].drop 2).take (Tryz.prog.cellsOf 43))=some y2:=h2;rw[cells_ints1] at h2';have h3':DataW.trod enc Tryz.prog w 0 (fun _=>true) true n3 22 (([c0,c1,c2,c3,c4,c5,c6].drop 3).take (Tryz.prog.cellsOf 22))=some y3:=h3;rw[cells_slNode] at h3';have h4':DataW.trod enc Tryz.prog w 0 (fun _=>true) true n4 44 (([c0,c1,c2,c3,c4,c5,c6].drop 4).take (Tryz.prog.cellsOf 44))=some y4:=h4;rw[cells_slEntry] at h4';have h5':DataW.trod enc Tryz.prog w 0 (fun _=>true) true n5 45 (([c0,c1,c2,c3,c4,c5,c6].drop 5).take (Tryz.prog.cellsOf 45))=some y5:=h5;rw[cells_slLine] at h5';have h6':DataW.trod enc Tryz.prog w 0 (fun _=>true) true n6 34 (([c0,c1,c2,c3,c4,c5,c6].drop 6).take (Tryz.prog.cellsOf 34))=some y6:=h6;rw[cells_slStep] at h6';obtain⟨i0,e0,-⟩:=opens_int1 H enc w n0 _ _ h0';obtain⟨i1,e1,-⟩:=opens_int1 H enc w n1 _ _ h1';obtain⟨l2,v2,e2,s2⟩:=Opens.slice Tryz.underlying43 cells_int1 (by decide) opens_int1 H enc w n2 _ _ h2';obtain⟨l3,v3,e3,s3⟩:=Opens.slice Tryz.underlying22 cells_node (by decide) opens_node H enc w n3 _ _ h3';obtain⟨l4,v4,e4,s4⟩:=Opens.slice Tryz.underlying44 cells_ent (by decide) opens_ent H enc w n4 _ _ h4';obtain⟨l5,v5,e5,s5⟩:=Opens.slice Tryz.underlying45 cells_line (by decide) opens_line H enc w n5 _ _ h5';obtain⟨l6,v6,e6,s6⟩:=Opens.slice Tryz.underlying34 cells_step (by decide) opens_step H enc w n6 _ _ h6';obtain⟨a2,k2,rfl⟩:=slice_form s2;obtain⟨a3,k3,rfl⟩:=slice_form s3;obtain⟨a4,k4,rfl⟩:=slice_form s4;obtain⟨a5,k5,rfl⟩:=slice_form s5;obtain⟨a6,k6,rfl⟩:=slice_form s6;have r2:=(SlAt.rowsC (enc:=fun(x:Int)=>[Value.int .i64 x]) s2).1;have r3:=nodes_of s3;have r4:=(SlAt.rowsC (enc:=encEn) s4).1;have r5:=(SlAt.rowsC (enc:=encLn) s5).1;have r6:=steps_of s6;simp at e0 e1 e2 e3 e4 e5 e6;subst e0 e1 e2 e3 e4 e5 e6;exact⟨(⟨i0,i1,a2,l2.length,k2,a3,l3.length,k3,a4,l4.length,k4,a5,l5.length,k5,a6,l6.length,k6⟩,⟨i0,i1,l2,l3.map (·.2),l4,l5,l6.map (·.2)⟩),rfl,rfl,rfl,r2,r3,r4,r5,r6⟩
theorem arg_man{H:Type}{enc:TypeId×Value→H}{w:World}{v:Value}{d:DataW H}{ps:List MemPlace}{r:Reach}{b:Nat}(ho:Value.okWide Tryz.prog w r b 47 v)(h:DataW.Trod enc Tryz.prog w 0 (fun _=>true) true 47 v d ps): ∃(c:MfC) (m:Gr.Mf),v = .agg #[.int .i64 c.epoch,.int .i64 c.plans,.slice c.ao c.no c.co,.slice c.ag c.ng c.cg,.slice c.ae c.ne c.ce,.slice c.ax c.nx c.cx,.slice c.ap c.np c.cp]∧MfIs w c m:=by
 obtain⟨⟨c,m⟩,h1,h2⟩:=opens_man.arg h;exact⟨c,m,cells_agg Tryz.underlying47 ho h1,h2⟩
end Go.Proofs.YtipgfjihdglocaaGreat
