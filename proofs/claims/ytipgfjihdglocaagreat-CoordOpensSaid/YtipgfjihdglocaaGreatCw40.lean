import Derived.Test.YtipgfjihdglocaaGreatCw15
import Derived.Test.YtipgfjihdglocaaGreatCw37
import Derived.Test.YtipgfjihdglocaaGreatCw36
import Derived.Test.YtipgfjihdglocaaGreatCw33
import Derived.Test.YtipgfjihdglocaaGreatCw9
import Derived.Deep.QuietTactic
import Derived.BigQuiet
import Derived.Deep.LoopGhost
import Derived.Test.YtipgfjihdglocaaGreatCw34
import Derived.Test.YtipgfjihdglocaaGreatCw22
import Derived.Test.YtipgfjihdglocaaGreatCw26
set_option linter.unusedSimpArgs false
set_option linter.unusedVariables false
set_option maxRecDepth 100000
set_option maxHeartbeats 64000000
namespace Go.Proofs.YtipgfjihdglocaaGreat
open Go.RowKit Ga
def frame22(u:Nat→Value): Act:={ tmps:=#[u 0,u 1,u 2,u 3,u 4,u 5,u 6,u 7,u 8,u 9,u 10,u 11,u 12,u 13,u 14,u 15,u 16,u 17,u 18,u 19,u 20,u 21,u 22,u 23,u 24,u 25,u 26,u 27,u 28,u 29,u 30,u 31,u 32,u 33,u 34,u 35,u 36,u 37,u 38,u 39,u 40,u 41,u 42,u 43,u 44,u 45,u 46,u 47,u 48,u 49,u 50,u 51,u 52,u 53,u 54,u 55,u 56,u 57,u 58,u 59,u 60,u 61,u 62,u 63,u 64,u 65,u 66,u 67,u 68,u 69,u 70,u 71,u 72,u 73,u 74,u 75,u 76,u 77,u 78,u 79,u 80,u 81,u 82,u 83,u 84,u 85,u 86,u 87,u 88,u 89,u 90,u 91,u 92,u 93,u 94,u 95,u 96,u 97,u 98,u 99,u 100,u 101,u 102,u 103,u 104,u 105,u 106,u 107,u 108,u 109,u 110,u 111,u 112,u 113,u 114,u 115,u 116,u 117,u 118,u 119,u 120,u 121,u 122,u 123,u 124,u 125,u 126,u 127,u 128,u 129,u 130,u 131,u 132,u 133,u 134,u 135,u 136,u 137,u 138,u 139,u 140,u 141,u 142,u 143,u 144,u 145,u 146,u 147,u 148,u 149,u 150,u 151,u 152,u 153,u 154,u 155,u 156,u 157,u 158,u 159,u 160,u 161,u 162,u 163,u 164,u 165,u 166,u 167,u 168,u 169,u 170,u 171,u 172,u 173,u 174,u 175,u 176,u 177,u 178,u 179,u 180,u 181,u 182,u 183,u 184,u 185,u 186,u 187,u 188,u 189,u 190,u 191,u 192,u 193,u 194,u 195,u 196,u 197,u 198,u 199,u 200,u 201,u 202,u 203,u 204,u 205,u 206,u 207,u 208,u 209,u 210,u 211,u 212,u 213,u 214,u 215,u 216,u 217,u 218,u 219,u 220,u 221,u 222,u 223,u 224,u 225,u 226,u 227,u 228,u 229,u 230,u 231],defers:=[] }
noncomputable def tail22(n:Nat): Code:=(Tryz.f24.body.bind (from9 n)).getD .skip
def boxM(c:MfC): Array Value:=#[.int .i64 c.epoch,.int .i64 c.plans,.slice c.ao c.no c.co,.slice c.ag c.ng c.cg,.slice c.ae c.ne c.ce,.slice c.ax c.nx c.cx,.slice c.ap c.np c.cp]
structure Pre22 (w:World) (tx:Nat) (c:MfC) (a:Act) (W:World):Prop where
 fr:a=frame22 (fun i=>a.tmps.getD i undef)
 t1:a.tmps.getD 1 undef = .pointer (some ⟨tx,0,none⟩)
 g:Grew w W
 bx:W.heap[tx]? = some (.cells (boxM c) 47)
structure Ret22 (w:World) (b:Bool) (a:Act) (W:World):Prop where
 t2:a.tmps.getD 2 undef = .bool b
 d:a.defers=[]
 g:Grew w W
def Cond1(m:Gr.Mf): Prop:=numB m.epoch 2147483647=true∧numB m.plans 2147483647=true∧checkR m.graph=0∧m.out.length≤4000
def Cond2(m:Gr.Mf): Prop:=∀j (hj:j+1<m.graph.length),m.graph[j].id<m.graph[j+1].id
def Cond3(m:Gr.Mf): Prop:=∃n,m.graph.head? = some n∧(m.offs.length:Int)=n.par
def Cond4(m:Gr.Mf): Prop:=∀x∈m.offs,numB x 400=true
open Classical in
def EntOk(m:Gr.Mf)(j:Nat)(hj:j<m.ents.length): Prop:=okEn m.ents[j]=true∧Tab.nz m.ents[j]=true∧badE m.graph m.ents[j]=false∧∀i (h:i+1=j),¬(m.ents[j].node<m.ents[i].node∨m.ents[i].node=m.ents[j].node∧m.ents[j].key≤m.ents[i].key)
def Cond5(m:Gr.Mf): Prop:=∀j (hj:j<m.ents.length),EntOk m j hj
def Cond6(m:Gr.Mf): Prop:=m.plan=[]∨Gr.OkPl fitsP m.plan∧∀s∈m.plan,Gr.cleanS s=s
def Cond7(m:Gr.Mf): Prop:=∀x∈m.out,lineB x=true
theorem rm_p1(m:Gr.Mf)(w W:World)(tx:Nat)(c:MfC)(Q:Exit→Act→World→Prop)(a0:Act)
  (h0:Pre22 w tx c a0 W) (hm:MfIs W c m)
  (hbad:¬Cond1 m→∀a' w',Ret22 w false a' w'→Q .ret a' w')
  (hnext:Cond1 m→∀a' w',Grew W w'→Pre22 w tx c a' w'→Code.wp Tryz.prog (tail22 3) Q a' w') :
  Code.wp Tryz.prog (tail22 1) Q a0 W:=by
 obtain⟨hfr,h01,hg,hbx⟩:=h0;obtain⟨u,hu⟩:∃u:Nat→Value,u=fun i=>a0.tmps.getD i undef:=⟨_,rfl⟩
 rw[←hu] at hfr;have u1:u 1=_:=(congrFun hu 1).trans h01;clear hu h01;subst hfr
 conv=>arg 2;whnf
 unfold frame22;rw[u1];clear u1;have e1:=hm.epoch;have e2:=hm.plans;have HO:=hY hm.o;have HGR:=hY hm.g;have HE:=hY hm.e;have HX:=hY hm.x;have HP:=hY hm.p;obtain⟨ep,pl,ao,co,ag,cg,ae,ce,ax,cx,ap,cp,rfl⟩:=hm.lit;simp only at e1 e2 HO HGR HE HX HP;simp only[boxM] at hbx;have E1:=hY e1;have E2:=hY e2;have HG:=hY hg;have HBX:=hY hbx;have HBAD:=hY hbad;have HNX:=hY hnext;clear e1 e2 hm hg hbx hbad hnext;have x0:=cell_of (o:=0) HBX.o;have x1:=cell_of (o:=1) HBX.o;have x3:=cell_of (o:=3) HBX.o;have x5:=cell_of (o:=5) HBX.o;simp at x0 x1 x3 x5;have px:=Pre.mk (heap_lt HBX.o);have HC:=hY fun W' (g:Grew W W')=>refCheck08_any _ m.graph W' (HGR.o.grew g)
 obtain⟨r,hr⟩:∃r,checkR m.graph=r:=⟨_,rfl⟩;rw[hr] at HC;have HR:=hY hr;clear hr;cases h1:numB ep 2147483647
 ·have H1:=hY h1;clear h1
  go_wp2_with (first
   | (go_at_call 60;refine(fits50_any _ _ _).mono ?_;rintro e w1 ⟨rfl,rfl⟩;rw[H1.o]))
  exact HBAD.o (fun h=>by have:=h.1;rw[E1.o,H1.o] at this;cases this) _ _ ⟨rfl,rfl,HG.o.trans gw⟩
 have H1:=hY h1;clear h1;cases h2:numB pl 2147483647
 ·have H2:=hY h2;clear h2
  go_wp2_with fail
  refine(fits50_any _ _ _).mono ?_;rintro e w1 ⟨rfl,rfl⟩;rw[H1.o]
  go_wp2_with fail
  refine(fits50_any _ _ _).mono ?_;rintro e w1 ⟨rfl,rfl⟩;rw[H2.o];go_wp2;exact HBAD.o (fun h=>by have:=h.2.1;rw[E2.o,H2.o] at this;cases this) _ _ ⟨rfl,rfl,HG.o.trans gw⟩
 have H2:=hY h2;clear h2;by_cases h3:r=0
 case neg =>
  have h3b:(r != 0)=true:=by rw[bne_iff_ne];exact h3
  have H3:=hY h3;clear h3
  go_wp2_with fail
  refine(fits50_any _ _ _).mono ?_;rintro e w1 ⟨rfl,rfl⟩;rw[H1.o]
  go_wp2_with fail
  refine(fits50_any _ _ _).mono ?_;rintro e w1 ⟨rfl,rfl⟩;rw[H2.o]
  go_wp2_with fail
  refine(HC.o _ gw).mono ?_;rintro e w1 ⟨rfl,R1,n1,rfl⟩;go_wp2;exact HBAD.o (fun h=>by have:=h.2.2.1;rw[HR.o] at this;exact H3.o this) _ _ ⟨rfl,rfl,HG.o.trans gw⟩
 subst h3;by_cases h4:(4000:Int)<(m.out.length:Int)
 ·go_wp2_with fail
  refine(fits50_any _ _ _).mono ?_;rintro e w1 ⟨rfl,rfl⟩;rw[H1.o]
  go_wp2_with fail
  refine(fits50_any _ _ _).mono ?_;rintro e w1 ⟨rfl,rfl⟩;rw[H2.o]
  go_wp2_with fail
  refine(HC.o _ gw).mono ?_;rintro e w1 ⟨rfl,R1,n1,rfl⟩;go_wp2;exact HBAD.o (fun h=>by have:=h.2.2.2;omega) _ _ ⟨rfl,rfl,HG.o.trans gw⟩
 ·have HOK:Hid (Cond1 m):=hY ⟨by rw[E1.o];exact H1.o,by rw[E2.o];exact H2.o,HR.o,by omega⟩
  go_wp2_with fail
  refine(fits50_any _ _ _).mono ?_;rintro e w1 ⟨rfl,rfl⟩;rw[H1.o]
  go_wp2_with fail
  refine(fits50_any _ _ _).mono ?_;rintro e w1 ⟨rfl,rfl⟩;rw[H2.o]
  go_upto_if 35 with (go_at_call 61;refine(HC.o _ gw).mono ?_;rintro e w1 ⟨rfl,R1,n1,rfl⟩)
  iterate 4 go_step
  refine HNX.o HOK.o _ _ gw ?_;exact⟨rfl,rfl,HG.o.trans gw,grew_heap gw HBX.o⟩
theorem rm_p2(m:Gr.Mf)(w W:World)(tx:Nat)(c:MfC)(Q:Exit→Act→World→Prop)(a0:Act)
  (h0:Pre22 w tx c a0 W) (hm:MfIs W c m)
  (hbad:¬Cond2 m→∀a' w',Ret22 w false a' w'→Q .ret a' w')
  (hnext:Cond2 m→∀a' w',Grew W w'→Pre22 w tx c a' w'→Code.wp Tryz.prog (tail22 8) Q a' w') :
  Code.wp Tryz.prog (tail22 3) Q a0 W:=by
 obtain⟨hfr,h01,hg,hbx⟩:=h0;obtain⟨u,hu⟩:∃u:Nat→Value,u=fun i=>a0.tmps.getD i undef:=⟨_,rfl⟩
 rw[←hu] at hfr;have u1:u 1=_:=(congrFun hu 1).trans h01;clear hu h01;subst hfr
 conv=>arg 2;whnf
 unfold frame22;rw[u1];clear u1;have e1:=hm.epoch;have e2:=hm.plans;have HO:=hY hm.o;have HGR:=hY hm.g;have HE:=hY hm.e;have HX:=hY hm.x;have HP:=hY hm.p;obtain⟨ep,pl,ao,co,ag,cg,ae,ce,ax,cx,ap,cp,rfl⟩:=hm.lit;simp only at e1 e2 HO HGR HE HX HP;simp only[boxM] at hbx;have E1:=hY e1;have E2:=hY e2;have HG:=hY hg;have HBX:=hY hbx;have HBAD:=hY hbad;have HNX:=hY hnext;clear e1 e2 hm hg hbx hbad hnext;go_wp2
 go_loopg [3] m.graph.length (fun gg s3 wr=>∃g:Nat,(g+1≤m.graph.length∨m.graph.length=0∧g=0)∧m.graph.length-g≤gg∧s3 = .int .i64 (g+1)∧Hid (Grew W wr)∧Hid (∀j (hj:j+1<m.graph.length),j<g→m.graph[j].id<m.graph[j+1].id))
 case atStart=>exact⟨0,by omega,by omega,rfl,hY gw,hY fun j _ h=>by omega⟩
 case round =>
  obtain⟨g,hg8,hgg,rfl,HGW,HNO⟩:=hrel;have hbx:=grew_heap HGW.o HBX.o;have x3:=cell_of (o:=3) hbx;simp at x3;have px:=Pre.mk (heap_lt hbx);have HBX2:=hY hbx;clear hbx;by_cases hlt:g+1<m.graph.length
  ·obtain⟨av,cv,e,hmx,hx⟩:=(HGR.o.grew HGW.o).openC;cases e;obtain⟨b,off,c,rfl,hb,hn,c0,-⟩:=hx (g+1) hlt;obtain⟨b',off',c',e,hb',hn',d0,-⟩:=hx g (by omega);cases e;have H1:=hY hn.id;have H2:=hY hn'.id;have hsub:IntKind.i64.wrap ((g:Int)+1-1)=g:=by rw[Int.add_sub_cancel];exact IntWalk.i64_in _ (by omega)
   have hsub2:IntKind.i64.wrap (g:Int)=g:=IntWalk.i64_in _ (by omega);have c0':wr.cell? ⟨b,off+(g+1)*13,none⟩=some (.int .i64 c.id):=c0;clear hx hn hn' c0;generalize c.id=p at *;generalize c'.id=q at *
   go_upto_region 6 with fail
   by_cases hpq:p≤q
   ·go_quiet (fail)
    go_wp2;exact HBAD.o (fun h=>by have:=h g hlt;rw[H1.o,H2.o] at this;omega) _ _ ⟨rfl,rfl,HG.o.trans (HGW.o.trans gw)⟩
   ·go_quiet (fail)
    go_wp2
    go_roundg (m.graph.length-(g+1))
    case measure=>omega
    case rel=>exact⟨g+1,by omega,by omega,by go_num,hY (HGW.o.trans gw),hY fun j hj h=>by
     rcases Nat.lt_or_ge j g with h1|h1
     ·exact HNO.o j hj h1
     ·obtain rfl:j=g:=by omega
      rw[H1.o,H2.o]
      omega⟩
  ·have HOK:Hid (Cond2 m):=hY fun j hj=>HNO.o j hj (by omega)
   go_upto_if 40 with fail
   iterate 4 go_step
   refine HNX.o HOK.o _ _ (HGW.o.trans gw) ?_;exact⟨rfl,rfl,HG.o.trans (HGW.o.trans gw),grew_heap gw HBX2.o⟩
theorem rm_p3(m:Gr.Mf)(w W:World)(tx:Nat)(c:MfC)(Q:Exit→Act→World→Prop)(a0:Act)
  (h0:Pre22 w tx c a0 W) (hm:MfIs W c m) (hne:0<m.graph.length)
  (hbad:¬Cond3 m→∀a' w',Ret22 w false a' w'→Q .ret a' w')
  (hnext:Cond3 m→∀a' w',Grew W w'→Pre22 w tx c a' w'→Code.wp Tryz.prog (tail22 10) Q a' w') :
  Code.wp Tryz.prog (tail22 8) Q a0 W:=by
 obtain⟨hfr,h01,hg,hbx⟩:=h0;obtain⟨u,hu⟩:∃u:Nat→Value,u=fun i=>a0.tmps.getD i undef:=⟨_,rfl⟩
 rw[←hu] at hfr;have u1:u 1=_:=(congrFun hu 1).trans h01;clear hu h01;subst hfr
 conv=>arg 2;whnf
 unfold frame22;rw[u1];clear u1;have e1:=hm.epoch;have e2:=hm.plans;have HO:=hY hm.o;have HGR:=hY hm.g;have HE:=hY hm.e;have HX:=hY hm.x;have HP:=hY hm.p;obtain⟨ep,pl,ao,co,ag,cg,ae,ce,ax,cx,ap,cp,rfl⟩:=hm.lit;simp only at e1 e2 HO HGR HE HX HP;simp only[boxM] at hbx;have E1:=hY e1;have E2:=hY e2;have HG:=hY hg;have HBX:=hY hbx;have HBAD:=hY hbad;have HNX:=hY hnext;clear e1 e2 hm hg hbx hbad hnext;have x2:=cell_of (o:=2) HBX.o;have x3:=cell_of (o:=3) HBX.o;simp at x2 x3;have px:=Pre.mk (heap_lt HBX.o);obtain⟨av,cv,e,hmx,hx⟩:=HGR.o.openC;cases e;obtain⟨b,off,c,rfl,hb,hn,-,-,-,-,c4,-⟩:=hx 0 hne;have hhd:m.graph.head? = some m.graph[0]:=by rw[List.head?_eq_getElem?,List.getElem?_eq_getElem hne]
 have HHD:=hY hhd;have HPAR:=hY hn.par;clear hx hn hhd;simp at c4;generalize c.par=p at *;by_cases h:(m.offs.length:Int)=p
 ·have h':((m.offs.length:Int) != p)=false:=by rw[h];simp
  have HOK:Hid (Cond3 m):=hY ⟨_,HHD.o,by rw[HPAR.o];exact h⟩;clear h
  go_upto_region 8 with fail
  go_quiet (fail)
  go_upto_if 65 with fail
  iterate 4 go_step
  refine HNX.o HOK.o _ _ gw ?_;exact⟨rfl,rfl,HG.o.trans gw,grew_heap gw HBX.o⟩
 ·have h':((m.offs.length:Int) != p)=true:=by rw[bne_iff_ne];exact h
  have H:=hY h;clear h
  go_upto_region 8 with fail
  go_quiet (fail)
  go_wp2
  exact HBAD.o (fun⟨n,h1,h2⟩=>by
   have:=Option.some.inj (HHD.o.symm.trans h1);subst this;rw[HPAR.o] at h2
   exact H.o h2) _ _ ⟨rfl,rfl,HG.o.trans gw⟩
theorem rm_p4(m:Gr.Mf)(w W:World)(tx:Nat)(c:MfC)(Q:Exit→Act→World→Prop)(a0:Act)
  (h0:Pre22 w tx c a0 W) (hm:MfIs W c m)
  (hbad:¬Cond4 m→∀a' w',Ret22 w false a' w'→Q .ret a' w')
  (hnext:Cond4 m→∀a' w',Grew W w'→Pre22 w tx c a' w'→Code.wp Tryz.prog (tail22 15) Q a' w') :
  Code.wp Tryz.prog (tail22 10) Q a0 W:=by
 obtain⟨hfr,h01,hg,hbx⟩:=h0;obtain⟨u,hu⟩:∃u:Nat→Value,u=fun i=>a0.tmps.getD i undef:=⟨_,rfl⟩
 rw[←hu] at hfr;have u1:u 1=_:=(congrFun hu 1).trans h01;clear hu h01;subst hfr
 conv=>arg 2;whnf
 unfold frame22;rw[u1];clear u1;have e1:=hm.epoch;have e2:=hm.plans;have HO:=hY hm.o;have HGR:=hY hm.g;have HE:=hY hm.e;have HX:=hY hm.x;have HP:=hY hm.p;obtain⟨ep,pl,ao,co,ag,cg,ae,ce,ax,cx,ap,cp,rfl⟩:=hm.lit;simp only at e1 e2 HO HGR HE HX HP;simp only[boxM] at hbx;have E1:=hY e1;have E2:=hY e2;have HG:=hY hg;have HBX:=hY hbx;have HBAD:=hY hbad;have HNX:=hY hnext;clear e1 e2 hm hg hbx hbad hnext;go_wp2
 go_loopg [4] m.offs.length (fun gg s4 wr=>∃g:Nat,g≤m.offs.length∧m.offs.length-g≤gg∧s4 = .int .i64 g∧Hid (Grew W wr)∧Hid (∀j (hj:j<m.offs.length),j<g→numB m.offs[j] 400=true))
 case atStart=>exact⟨0,by omega,by omega,rfl,hY gw,hY fun j _ h=>by omega⟩
 case round =>
  obtain⟨g,hg8,hgg,rfl,HGW,HNO⟩:=hrel;have hbx:=grew_heap HGW.o HBX.o;have x2:=cell_of (o:=2) hbx;simp at x2;have px:=Pre.mk (heap_lt hbx);have HBX2:=hY hbx;clear hbx;by_cases hlt:g<m.offs.length
  ·obtain⟨av,cv,e,hmx,hx⟩:=ints_open (HO.o.grew HGW.o);cases e;obtain⟨b,off,rfl,hb,c0⟩:=hx g hlt;have HY:Hid (m.offs[g]=m.offs[g]):=hY rfl;generalize hy:m.offs[g]=y at *;have HYE:=hY hy;clear hx hy;cases hq:numB y 400
   ·have HQ:=hY hq;clear hq
    go_wp2_with (go_at_call 60;refine(fits50_any _ _ _).mono ?_;rintro e w1 ⟨rfl,rfl⟩;rw[HQ.o])
    exact HBAD.o (fun h=>by have:=h _ (List.getElem_mem hlt);rw[HYE.o,HQ.o] at this;cases this) _ _ ⟨rfl,rfl,HG.o.trans (HGW.o.trans gw)⟩
   ·have HQ:=hY hq;clear hq
    go_wp2_with (go_at_call 60;refine(fits50_any _ _ _).mono ?_;rintro e w1 ⟨rfl,rfl⟩;rw[HQ.o])
    go_roundg (m.offs.length-(g+1))
    case measure=>omega
    case rel=>exact⟨g+1,by omega,by omega,by go_num,hY (HGW.o.trans gw),hY fun j hj h=>by
     rcases Nat.lt_or_ge j g with h1|h1
     ·exact HNO.o j hj h1
     ·obtain rfl:j=g:=by omega
      rw[HYE.o]
      exact HQ.o⟩
  ·have HOK:Hid (Cond4 m):=hY fun x hx=>by
    obtain⟨j,hj,rfl⟩:=List.mem_iff_getElem.1 hx;exact HNO.o j hj (by omega)
   go_upto_if 70 with fail
   iterate 4 go_step
   refine HNX.o HOK.o _ _ (HGW.o.trans gw) ?_;exact⟨rfl,rfl,HG.o.trans (HGW.o.trans gw),grew_heap gw HBX2.o⟩
theorem rm_p5(m:Gr.Mf)(w W:World)(tx:Nat)(c:MfC)(Q:Exit→Act→World→Prop)(a0:Act)
  (h0:Pre22 w tx c a0 W) (hm:MfIs W c m)
  (hbad:¬Cond5 m→∀a' w',Ret22 w false a' w'→Q .ret a' w')
  (hnext:Cond5 m→∀a' w',Grew W w'→Pre22 w tx c a' w'→Code.wp Tryz.prog (tail22 26) Q a' w') :
  Code.wp Tryz.prog (tail22 15) Q a0 W:=by
 obtain⟨hfr,h01,hg,hbx⟩:=h0;obtain⟨u,hu⟩:∃u:Nat→Value,u=fun i=>a0.tmps.getD i undef:=⟨_,rfl⟩
 rw[←hu] at hfr;have u1:u 1=_:=(congrFun hu 1).trans h01;clear hu h01;subst hfr
 conv=>arg 2;whnf
 unfold frame22;rw[u1];clear u1;have e1:=hm.epoch;have e2:=hm.plans;have HO:=hY hm.o;have HGR:=hY hm.g;have HE:=hY hm.e;have HX:=hY hm.x;have HP:=hY hm.p;obtain⟨ep,pl,ao,co,ag,cg,ae,ce,ax,cx,ap,cp,rfl⟩:=hm.lit;simp only at e1 e2 HO HGR HE HX HP;simp only[boxM] at hbx;have E1:=hY e1;have E2:=hY e2;have HG:=hY hg;have HBX:=hY hbx;have HBAD:=hY hbad;have HNX:=hY hnext;clear e1 e2 hm hg hbx hbad hnext;go_wp2
 go_loopg [5] m.ents.length (fun gg s5 wr=>∃g:Nat,g≤m.ents.length∧m.ents.length-g≤gg∧s5 = .int .i64 g∧Hid (Grew W wr)∧Hid (∀j (hj:j<m.ents.length),j<g→EntOk m j hj))
 case atStart=>exact⟨0,by omega,by omega,rfl,hY gw,hY fun j _ h=>by omega⟩
 case round =>
  obtain⟨g,hg8,hgg,rfl,HGW,HNO⟩:=hrel;have hbx:=grew_heap HGW.o HBX.o;have x3:=cell_of (o:=3) hbx;have x4:=cell_of (o:=4) hbx;simp at x3 x4;have px:=Pre.mk (heap_lt hbx);have HBX2:=hY hbx;clear hbx;by_cases hlt:g<m.ents.length
  ·obtain⟨av,cv,e,hmx,hx⟩:=EntsAt.open6 (HE.o.grew HGW.o);cases e;obtain⟨b,off,rfl,hb,c0,c1,c2,c3,c4,c5⟩:=hx g hlt
   have hpre:g=0∨∃i:Nat,∃hi:i+1=g,wr.cell? ⟨b,off+i*6,none⟩=some (.int .i64 (m.ents[i]'(by omega)).node)∧wr.cell? ⟨b,off+i*6+1,none⟩=some (.int .i64 (m.ents[i]'(by omega)).key):=by
    rcases Nat.eq_zero_or_pos g with h|h
    ·exact .inl h
    ·refine .inr ⟨g-1,by omega,?_⟩;obtain⟨b',off',e,hb',d0,d1,-⟩:=hx (g-1) (by omega);cases e;exact⟨d0,d1⟩
   have HPRE:=hY hpre;have HBE:=hY (show ¬EntOk m g hlt→¬Cond5 m from fun q h=>q (h g hlt));have HEO:Hid (EntOk m g hlt↔okEn m.ents[g]=true∧Tab.nz m.ents[g]=true∧badE m.graph m.ents[g]=false∧∀i (h:i+1=g),¬(m.ents[g].node<(m.ents[i]'(by omega)).node∨(m.ents[i]'(by omega)).node=m.ents[g].node∧m.ents[g].key≤(m.ents[i]'(by omega)).key)):=hY Iff.rfl;generalize hEO:EntOk m g hlt=EO at *;have HEOE:=hY hEO;clear hx hpre hEO;generalize m.ents[g]=x at *;obtain⟨nd,ky,⟨p0,q0⟩,⟨p1,q1⟩⟩:=x;simp only at c0 c1 c2 c3 c4 c5 HEO;have HRT:=hY fun W'=>refRight07_any nd ky p0 q0 p1 q1 W'
   have HFD:=hY fun W' (g:Grew W W')=>refFind08_any _ m.graph nd W' (HGR.o.grew g)
   have hceq:=fun W'=>run_eql_ce p0 q0 p1 q1 W'
   have hnz:(((p0,q0):Val)==(0,0)&&((p1,q1):Val)==(0,0)) = !(Tab.nz ⟨nd,ky,(p0,q0),(p1,q1)⟩):=by unfold Tab.nz;simp
   rw[hnz] at hceq;clear hnz;cases hk:okEn ⟨nd,ky,(p0,q0),(p1,q1)⟩
   ·have HK:=hY hk;clear hk
    go_wp2_with (go_at_call 62;refine(HRT.o _).mono ?_;rintro e w1 ⟨rfl,R1,n1,rfl⟩;rw[HK.o])
    exact HBAD.o (HBE.o fun h=>by have:=(HEO.o.1 h).1;rw[HK.o] at this;cases this) _ _ ⟨rfl,rfl,HG.o.trans (HGW.o.trans gw)⟩
   have HK:=hY hk;clear hk;cases hz:Tab.nz ⟨nd,ky,(p0,q0),(p1,q1)⟩
   ·have HZ:=hY hz;rw[hz] at hceq;clear hz
    go_wp2_with (go_at_call 62;refine(HRT.o _).mono ?_;rintro e w1 ⟨rfl,R1,n1,rfl⟩;rw[HK.o])
    exact HBAD.o (HBE.o fun h=>by have:=(HEO.o.1 h).2.1;rw[HZ.o] at this;cases this) _ _ ⟨rfl,rfl,HG.o.trans (HGW.o.trans gw)⟩
   have HZ:=hY hz;rw[hz] at hceq;clear hz
   have hfi:(findI m.graph nd = -1∧badE m.graph ⟨nd,ky,(p0,q0),(p1,q1)⟩=true)∨∃k:Nat,∃hk:k<m.graph.length,findI m.graph nd=k∧badE m.graph ⟨nd,ky,(p0,q0),(p1,q1)⟩=(m.graph[k].kind != 1):=by
    unfold badE Gr.nodeOf;simp only
    cases hf:Gr.find m.graph nd with
    | none=>exact .inl ⟨findI_none hf,by simp⟩
    |some k =>
     obtain⟨h1,h2⟩:=findI_some hf;exact .inr ⟨k,h2,h1,by simp[List.getElem?_eq_getElem h2]⟩
   have HFI:=hY hfi;generalize badE m.graph ⟨nd,ky,(p0,q0),(p1,q1)⟩=bad at *;clear hfi;rcases HFI.o with ⟨f1,f2⟩|⟨k,hkl,f1,f2⟩
   ·subst f2;have F1:=hY f1;clear f1
    go_wp2_with (first
     | (go_at_call 62;refine(HRT.o _).mono ?_;rintro e w1 ⟨rfl,R1,n1,rfl⟩;rw[HK.o])
     | (go_at_call 63;refine(HFD.o _ (HGW.o.trans gw)).mono ?_;rintro e w1 ⟨rfl,hw1⟩;obtain rfl:=hw1.symm;rw[F1.out]))
    exact HBAD.o (HBE.o fun h=>by have:=(HEO.o.1 h).2.2.1;cases this) _ _ ⟨rfl,rfl,HG.o.trans (HGW.o.trans gw)⟩
   ·obtain⟨ag',cg',e,hmg,hxg⟩:=(HGR.o.grew HGW.o).openC;cases e;obtain⟨bg,offg,cc,rfl,hbg,hng,-,k1,-⟩:=hxg k hkl;have HKD:=hY hng.kind;rw[hng.kind] at f2;clear hxg hng HKD;generalize cc.kind=kd at *;subst f2;have F1:=hY f1;clear f1 HFI;by_cases hkd:kd=1
    case neg =>
     have hkb:(kd != 1)=true:=by rw[bne_iff_ne];exact hkd
     have HKB:=hY hkb
     go_wp2_with (first
      | (go_at_call 62;refine(HRT.o _).mono ?_;rintro e w1 ⟨rfl,R1,n1,rfl⟩;rw[HK.o])
      | (go_at_call 63;refine(HFD.o _ (HGW.o.trans gw)).mono ?_;rintro e w1 ⟨rfl,hw1⟩;obtain rfl:=hw1.symm;rw[F1.out]))
     exact HBAD.o (HBE.o fun h=>by have:=(HEO.o.1 h).2.2.1;rw[HKB.o] at this;cases this) _ _ ⟨rfl,rfl,HG.o.trans (HGW.o.trans gw)⟩
    subst hkd
    go_upto_region 24 with (first
     | (go_at_call 62;refine(HRT.o _).mono ?_;rintro e w1 ⟨rfl,R1,n1,rfl⟩;rw[HK.o])
     | (go_at_call 63;refine(HFD.o _ (HGW.o.trans gw)).mono ?_;rintro e w1 ⟨rfl,hw1⟩;obtain rfl:=hw1.symm;rw[F1.out]))
    have HNX2:Hid (EO→∀j (hj:j<m.ents.length),j<g+1→EntOk m j hj):=hY fun h j hj h2=>by
     rcases Nat.lt_or_ge j g with h1|h1
     ·exact HNO.o j hj h1
     ·obtain rfl:j=g:=by omega
      rw[HEOE.o];exact h
    rcases HPRE.o with rfl|⟨i,rfl,d0,d1⟩
    ·have HOK:=hY (HNX2.o (HEO.o.2 ⟨HK.o,HZ.o,by simp,fun i h=>by omega⟩))
     go_quiet (fail)
     go_wp2
     go_roundg (m.ents.length-1)
     case measure=>omega
     case rel=>exact⟨1,by omega,by omega,by go_num,hY (HGW.o.trans gw),HOK⟩
    ·have hsub:IntKind.i64.wrap ((i:Int)+1-1)=i:=by rw[Int.add_sub_cancel];exact IntWalk.i64_in _ (by omega)
     have hsub2:IntKind.i64.wrap (i:Int)=i:=IntWalk.i64_in _ (by omega)
     have HORD:Hid (EO↔¬(nd<(m.ents[i]'(by omega)).node∨(m.ents[i]'(by omega)).node=nd∧ky≤(m.ents[i]'(by omega)).key)):=hY ⟨fun h=>(HEO.o.1 h).2.2.2 i rfl,fun h=>HEO.o.2 ⟨HK.o,HZ.o,by simp,fun i' h'=>by
      obtain rfl:i'=i:=by omega
      exact h⟩⟩
     generalize (m.ents[i]'(by omega)).node=pn at *;generalize (m.ents[i]'(by omega)).key=pk at *;by_cases o1:nd<pn
     ·go_quiet (fail)
      go_wp2;exact HBAD.o (HBE.o fun h=>HORD.o.1 h (.inl o1)) _ _ ⟨rfl,rfl,HG.o.trans (HGW.o.trans gw)⟩
     ·by_cases o2:pn=nd
      ·subst o2;by_cases o3:ky≤pk
       ·go_quiet (fail)
        go_wp2;exact HBAD.o (HBE.o fun h=>HORD.o.1 h (.inr ⟨by simp,o3⟩)) _ _ ⟨rfl,rfl,HG.o.trans (HGW.o.trans gw)⟩
       ·have HOK:=hY (HNX2.o (HORD.o.2 (by omega)))
        go_quiet (fail)
        go_wp2
        go_roundg (m.ents.length-(i+1+1))
        case measure=>omega
        case rel=>exact⟨i+1+1,by omega,by omega,by go_num,hY (HGW.o.trans gw),HOK⟩
      ·have o2b:(pn==nd)=false:=by simpa using o2
       have HOK:=hY (HNX2.o (HORD.o.2 (by omega)));clear o2
       go_quiet (fail)
       go_wp2
       go_roundg (m.ents.length-(i+1+1))
       case measure=>omega
       case rel=>exact⟨i+1+1,by omega,by omega,by go_num,hY (HGW.o.trans gw),HOK⟩
  ·have HOK:Hid (Cond5 m):=hY fun j hj=>HNO.o j hj (by omega)
   go_upto_if 84 with fail
   iterate 4 go_step
   refine HNX.o HOK.o _ _ (HGW.o.trans gw) ?_;exact⟨rfl,rfl,HG.o.trans (HGW.o.trans gw),grew_heap gw HBX2.o⟩
theorem rm_p6(m:Gr.Mf)(w W:World)(tx:Nat)(c:MfC)(Q:Exit→Act→World→Prop)(a0:Act)
  (h0:Pre22 w tx c a0 W) (hm:MfIs W c m)
  (hbad:¬Cond6 m→∀a' w',Ret22 w false a' w'→Q .ret a' w')
  (hnext:Cond6 m→∀a' w',Grew W w'→Pre22 w tx c a' w'→Code.wp Tryz.prog (tail22 36) Q a' w') :
  Code.wp Tryz.prog (tail22 26) Q a0 W:=by
 obtain⟨hfr,h01,hg,hbx⟩:=h0;obtain⟨u,hu⟩:∃u:Nat→Value,u=fun i=>a0.tmps.getD i undef:=⟨_,rfl⟩
 rw[←hu] at hfr;have u1:u 1=_:=(congrFun hu 1).trans h01;clear hu h01;subst hfr
 conv=>arg 2;whnf
 unfold frame22;rw[u1];clear u1;have e1:=hm.epoch;have e2:=hm.plans;have HO:=hY hm.o;have HGR:=hY hm.g;have HE:=hY hm.e;have HX:=hY hm.x;have HP:=hY hm.p;obtain⟨ep,pl,ao,co,ag,cg,ae,ce,ax,cx,ap,cp,rfl⟩:=hm.lit;simp only at e1 e2 HO HGR HE HX HP;simp only[boxM] at hbx;have E1:=hY e1;have E2:=hY e2;have HG:=hY hg;have HBX:=hY hbx;have HBAD:=hY hbad;have HNX:=hY hnext;clear e1 e2 hm hg hbx hbad hnext;have x6:=cell_of (o:=6) HBX.o;simp at x6;have px:=Pre.mk (heap_lt HBX.o);by_cases hp0:m.plan=[]
 ·have hz:¬(0:Int)<(m.plan.length:Int):=by rw[hp0];simp
  have HOK:Hid (Cond6 m):=hY (.inl hp0);clear hp0
  go_upto_if 158 with fail
  iterate 4 go_step
  refine HNX.o HOK.o _ _ gw ?_;exact⟨rfl,rfl,HG.o.trans gw,grew_heap gw HBX.o⟩
 have hz:(0:Int)<(m.plan.length:Int):=by
  have:m.plan.length≠0:=fun e=>hp0 (List.eq_nil_of_length_eq_zero e)
  omega
 have HP0:=hY hp0;have HPL:=hY fun W' (g:Grew W W')=>plan13_any _ m.plan W' (HP.o.grew g)
 clear hp0;by_cases hok:Gr.OkPl fitsP m.plan
 case neg =>
  have HNO:=hY hok;clear hok
  go_wp2_with (go_at_call 64;refine(HPL.o _ gw).mono ?_;rintro e w8 ⟨t,b,rfl,hg8,-,ht2⟩;obtain⟨rfl,rfl⟩:=ht2 HNO.o;(have HG8:=hY hg8);clear hg8)
  exact HBAD.o (fun h=>h.elim HP0.o fun q=>HNO.o q.1) _ _ ⟨rfl,rfl,HG.o.trans ((show Grew _ _ by exact gw).trans (HG8.o.trans gw))⟩
 have HOKP:=hY hok;have h6:=hok.2.1;clear hok
 go_wp2_with (go_at_call 64;refine(HPL.o _ gw).mono ?_;rintro e w8 ⟨t,b,rfl,hg8,ht1,-⟩;obtain⟨rfl,rfl⟩:=ht1 HOKP.o;(have HG8:=hY hg8);clear hg8)
 go_loopg [10] m.plan.length (fun gg s10 wr=>∃g:Nat,g≤m.plan.length∧m.plan.length-g≤gg∧s10 = .int .i64 g∧Hid (Grew W wr)∧Hid (∀j (hj:j<m.plan.length),j<g→Gr.cleanS m.plan[j]=m.plan[j]))
 case atStart=>exact⟨0,by omega,by omega,rfl,hY ((show Grew W _ by exact gw).trans (HG8.o.trans gw)),hY fun j _ h=>by omega⟩
 case round =>
  clear x6 px;obtain⟨g,hg8,hgg,rfl,HGW,HNO⟩:=hrel;have hbx:=grew_heap HGW.o HBX.o;have x6:=cell_of (o:=6) hbx;simp at x6;have px:=Pre.mk (heap_lt hbx);have HBX2:=hY hbx;clear hbx;by_cases hlt:g<m.plan.length
  ·obtain⟨av,cv,e,hmx,hx⟩:=(HP.o.grew HGW.o).openC;cases e;obtain⟨b,off,c,rfl,hb,hn,c0,c1,c2,c3,c4,c5,c6,c7,c8,c9,c10,c11,c12,c13,c14⟩:=hx g hlt;have hkk:=(HOKP.o.2.2 _ (List.getElem_mem hlt)).1;have HBE:=hY (show Gr.cleanS m.plan[g]≠m.plan[g]→¬Cond6 m from fun q h=>h.elim HP0.o fun r=>q (r.2 _ (List.getElem_mem hlt)))
   have HNX2:Hid (Gr.cleanS m.plan[g]=m.plan[g]→∀j (hj:j<m.plan.length),j<g+1→Gr.cleanS m.plan[j]=m.plan[j]):=hY fun h j hj h2=>by
    rcases Nat.lt_or_ge j g with h1|h1
    ·exact HNO.o j hj h1
    ·obtain rfl:j=g:=by omega
     exact h
   clear hx;generalize m.plan[g]=y at *;have hck:=Gr.clean_kind hkk;rw[hn.kind] at hkk;have hcl:=hn.clean;have hC:=fun W'=>clean13_any c W' hkk
   obtain⟨d,hd⟩:∃d,cleanC c=d:=⟨_,rfl⟩;rw[hd] at hC hcl;have HC:=hY hC;have HEQ:=hY (eqSt_iff (s:=Gr.cleanS y) (t:=y));rw[hck,hcl.reset,hn.reset] at HEQ;have HCL:=hY hcl;have HN:=hY hn;have HND:=hY fun W' (g:Grew wr W')=>refNode08_any d.c c.c (Gr.cleanS y).nd y.nd W' (hcl.nd.grew g) (hn.nd.grew g)
   obtain⟨kd,rs,cid,knd,af,cf,ap',cp',par,r0,r1,r2,r3,r4,r5,r6,r7,rfl⟩:=hn.lit;simp only at c0 c1 c2 c3 c4 c5 c6 c7 c8 c9 c10 c11 c12 c13 c14 HC HEQ HND;simp only[decide_true,Bool.true_and] at HEQ;have heqt:=eqSt_true (s:=Gr.cleanS y) (t:=y);have HEQT:=hY heqt;clear hck hcl hC hd hn hkk heqt;generalize eqSt (Gr.cleanS y) y=q at *;obtain⟨dk,dc,dr⟩:=d;simp only at HC HEQ HND;generalize eqNd (Gr.cleanS y).nd y.nd=qn at *;by_cases hr:dr=rs
   case neg =>
    have hrb:(dr != rs)=true:=by rw[bne_iff_ne];exact hr
    have HQ:Hid (q=false):=hY (by rw[HEQ.o,beq_eq_false_iff_ne.2 hr,Bool.false_and]);obtain rfl:dr = !rs:=by cases dr<;>cases rs<;>simp at hr ⊢
    clear hr hrb;cases rs
    all_goals simp only[Bool.not_false,Bool.not_true] at *
    all_goals
     go_upto_region 34 with (go_at_call 65;refine(HC.o _).mono ?_;rintro e w1 ⟨rfl,R3,n3,rfl⟩)
     refine wp_region_seq 21 Tryz.mixed (by kernel_rfl) (by kernel_rfl) ?_
     iterate 21
      apply Seq.val
      focus
       rintro w1 u ⟨R1,n1,rfl⟩ hF;simp[moreFacts,Fact.more,Oper.deps,Region.binds,List.filter_cons,World.more_drew] at hF;simp[putFacts,Oper.deps,Region.binds,List.filter_cons,Region.dstOf,Fact.at,Act.put,World.more_drew]
       go_wp2_with (go_at_call 66;refine(HND.o _ gw).mono ?_;rintro e w2 ⟨rfl,R5,n5,rfl⟩)
       exact⟨gw,rfl,_,_,rfl,rfl,rfl⟩
     rintro u w1 ⟨R1,n1,rfl⟩ hF;clear hF;simp[putFacts,Region.dstOf,Fact.at,Act.put,List.range_succ,World.more_drew];go_wp2;exact HBAD.o (HBE.o fun h=>by have:=HEQT.o.2 h;rw[HQ.o] at this;cases this) _ _ ⟨rfl,rfl,HG.o.trans (HGW.o.trans gw)⟩
   subst hr;have hrb:(dr != dr)=false:=by simp
   go_upto_region 34 with (go_at_call 65;refine(HC.o _).mono ?_;rintro e w1 ⟨rfl,R3,n3,rfl⟩)
   refine wp_region_seq 21 Tryz.mixed (by kernel_rfl) (by kernel_rfl) ?_
   iterate 21
    apply Seq.val
    focus
     rintro w1 u ⟨R1,n1,rfl⟩ hF;simp[moreFacts,Fact.more,Oper.deps,Region.binds,List.filter_cons,World.more_drew] at hF;simp[putFacts,Oper.deps,Region.binds,List.filter_cons,Region.dstOf,Fact.at,Act.put,World.more_drew]
     go_wp2_with (go_at_call 66;refine(HND.o _ gw).mono ?_;rintro e w2 ⟨rfl,R5,n5,rfl⟩)
     exact⟨gw,rfl,_,_,rfl,rfl,rfl⟩
   rintro u w1 ⟨R1,n1,rfl⟩ hF;clear hF;simp[putFacts,Region.dstOf,Fact.at,Act.put,List.range_succ,World.more_drew];cases qn
   ·have HQ:Hid (q=false):=hY (by rw[HEQ.o];simp);go_wp2;exact HBAD.o (HBE.o fun h=>by have:=HEQT.o.2 h;rw[HQ.o] at this;cases this) _ _ ⟨rfl,rfl,HG.o.trans (HGW.o.trans gw)⟩
   ·have HQ:Hid (q=true):=hY (by rw[HEQ.o];simp);have HOK:=hY (HNX2.o (HEQT.o.1 HQ.o));go_wp2
    go_roundg (m.plan.length-(g+1))
    case measure=>omega
    case rel=>exact⟨g+1,by omega,by omega,by go_num,hY (HGW.o.trans gw),HOK⟩
  ·have HOK:Hid (Cond6 m):=hY (.inr ⟨HOKP.o,fun x hx=>by
    obtain⟨j,hj,rfl⟩:=List.mem_iff_getElem.1 hx
    exact HNO.o j hj (by omega)⟩)
   go_upto_if 171 with fail
   iterate 4 go_step
   refine HNX.o HOK.o _ _ (HGW.o.trans gw) ?_;exact⟨rfl,rfl,HG.o.trans (HGW.o.trans gw),grew_heap gw HBX2.o⟩
theorem rm_p7(m:Gr.Mf)(w W:World)(tx:Nat)(c:MfC)(Q:Exit→Act→World→Prop)(a0:Act)
  (h0:Pre22 w tx c a0 W) (hm:MfIs W c m)
  (hbad:¬Cond7 m→∀a' w',Ret22 w false a' w'→Q .ret a' w')
  (hnext:Cond7 m→∀a' w',Ret22 w true a' w'→Q .ret a' w') :
  Code.wp Tryz.prog (tail22 36) Q a0 W:=by
 obtain⟨hfr,h01,hg,hbx⟩:=h0;obtain⟨u,hu⟩:∃u:Nat→Value,u=fun i=>a0.tmps.getD i undef:=⟨_,rfl⟩
 rw[←hu] at hfr;have u1:u 1=_:=(congrFun hu 1).trans h01;clear hu h01;subst hfr
 conv=>arg 2;whnf
 unfold frame22;rw[u1];clear u1;have e1:=hm.epoch;have e2:=hm.plans;have HO:=hY hm.o;have HGR:=hY hm.g;have HE:=hY hm.e;have HX:=hY hm.x;have HP:=hY hm.p;obtain⟨ep,pl,ao,co,ag,cg,ae,ce,ax,cx,ap,cp,rfl⟩:=hm.lit;simp only at e1 e2 HO HGR HE HX HP;simp only[boxM] at hbx;have E1:=hY e1;have E2:=hY e2;have HG:=hY hg;have HBX:=hY hbx;have HBAD:=hY hbad;have HNX:=hY hnext;clear e1 e2 hm hg hbx hbad hnext;go_wp2
 go_loopg [12] m.out.length (fun gg s12 wr=>∃g:Nat,g≤m.out.length∧m.out.length-g≤gg∧s12 = .int .i64 g∧Hid (Grew W wr)∧Hid (∀j (hj:j<m.out.length),j<g→lineB m.out[j]=true))
 case atStart=>exact⟨0,by omega,by omega,rfl,hY gw,hY fun j _ h=>by omega⟩
 case round =>
  obtain⟨g,hg8,hgg,rfl,HGW,HNO⟩:=hrel;have hbx:=grew_heap HGW.o HBX.o;have x5:=cell_of (o:=5) hbx;simp at x5;have px:=Pre.mk (heap_lt hbx);have HBX2:=hY hbx;clear hbx;by_cases hlt:g<m.out.length
  ·obtain⟨av,cv,e,hmx,hx⟩:=LnsAt.open5 (HX.o.grew HGW.o);cases e;obtain⟨b,off,rfl,hb,c0,c1,c2,c3,c4⟩:=hx g hlt;have HBE:=hY (show lineB m.out[g]=false→¬Cond7 m from fun q h=>by rw[h _ (List.getElem_mem hlt)] at q;cases q)
   have HNX2:Hid (lineB m.out[g]=true→∀j (hj:j<m.out.length),j<g+1→lineB m.out[j]=true):=hY fun h j hj h2=>by
    rcases Nat.lt_or_ge j g with h1|h1
    ·exact HNO.o j hj h1
    ·obtain rfl:j=g:=by omega
     exact h
   clear hx;generalize m.out[g]=x at *;obtain⟨si,fr,ky,⟨p0,q0⟩⟩:=x;simp only at c0 c1 c2 c3 c4
   have hl:lineB ⟨si,fr,ky,(p0,q0)⟩=(numB si 7&&(numB fr 7&&recB ky (p0,q0))):=by
    unfold lineB recB numB;simp only;rw[show decide (ky≤63)=decide (ky<64) from decide_eq_decide.2 (by omega)]
   rw[hl] at HBE HNX2;have HRC:=hY fun W'=>refRec07_any ky p0 q0 W'
   generalize recB ky (p0,q0)=rb at *;clear hl;cases h1:numB si 7
   ·have H1:=hY h1;rw[h1] at HBE;clear h1
    go_wp2_with (go_at_call 60;refine(fits50_any _ _ _).mono ?_;rintro e w1 ⟨rfl,rfl⟩;rw[H1.o])
    exact HBAD.o (HBE.o (by simp)) _ _ ⟨rfl,rfl,HG.o.trans (HGW.o.trans gw)⟩
   have H1:=hY h1;rw[h1,Bool.true_and] at HBE HNX2;clear h1;cases h2:numB fr 7
   ·have H2:=hY h2;rw[h2] at HBE;clear h2
    go_wp2_with fail
    refine(fits50_any _ _ _).mono ?_;rintro e w1 ⟨rfl,rfl⟩;rw[H1.o]
    go_wp2_with fail
    refine(fits50_any _ _ _).mono ?_;rintro e w1 ⟨rfl,rfl⟩;rw[H2.o];go_wp2;exact HBAD.o (HBE.o (by simp)) _ _ ⟨rfl,rfl,HG.o.trans (HGW.o.trans gw)⟩
   have H2:=hY h2;rw[h2,Bool.true_and] at HBE HNX2;clear h2
   go_wp2_with fail
   refine(fits50_any _ _ _).mono ?_;rintro e w1 ⟨rfl,rfl⟩;rw[H1.o]
   go_wp2_with fail
   refine(fits50_any _ _ _).mono ?_;rintro e w1 ⟨rfl,rfl⟩;rw[H2.o];cases rb
   ·go_wp2_with (go_at_call 67;refine(HRC.o _).mono ?_;rintro e w1 ⟨rfl,R3,n3,rfl⟩)
    exact HBAD.o (HBE.o (by simp)) _ _ ⟨rfl,rfl,HG.o.trans (HGW.o.trans gw)⟩
   ·have HOK:=hY (HNX2.o (by simp))
    go_wp2_with (go_at_call 67;refine(HRC.o _).mono ?_;rintro e w1 ⟨rfl,R3,n3,rfl⟩)
    go_roundg (m.out.length-(g+1))
    case measure=>omega
    case rel=>exact⟨g+1,by omega,by omega,by go_num,hY (HGW.o.trans gw),HOK⟩
  ·have HOK:Hid (Cond7 m):=hY fun x hx=>by
    obtain⟨j,hj,rfl⟩:=List.mem_iff_getElem.1 hx;exact HNO.o j hj (by omega)
   go_wp2;exact HNX.o HOK.o _ _ ⟨rfl,rfl,HG.o.trans (HGW.o.trans gw)⟩
theorem strict_ids{l:List Gr.Nd}(h:∀j (hj:j+1<l.length),l[j].id<l[j+1].id): l.Pairwise fun a b=>a.id<b.id:=by
 rw[List.pairwise_iff_getElem]
 have key:∀d i (hj:i+d+1<l.length),l[i].id<l[i+d+1].id:=by
  intro d
  induction d with
  | zero=>intro i hj;exact h i hj
  | succ d ih=>intro i hj;have h1:=ih i (by omega);have h2:=h (i+d+1) hj;exact Int.lt_trans h1 h2
 intro i j hi hj hij;have:=key (j-i-1) i (by omega);simpa [show i+(j-i-1)+1=j by omega] using this
theorem num_lt{a b:Tab.En}(ha:0≤a.key∧a.key<64)(hb:0≤b.key∧b.key<64): Tab.num a<Tab.num b↔¬(b.node<a.node∨a.node=b.node∧b.key≤a.key):=by
 unfold Tab.num;omega
theorem strict_ents{l:List Tab.En}(hk:∀x∈l,0≤x.key∧x.key<64)(h:∀j (hj:j+1<l.length),Tab.num l[j]<Tab.num l[j+1]): l.Pairwise fun a b=>Tab.num a<Tab.num b:=by
 rw[List.pairwise_iff_getElem]
 have key:∀d i (hj:i+d+1<l.length),Tab.num l[i]<Tab.num l[i+d+1]:=by
  intro d
  induction d with
  | zero=>intro i hj;exact h i hj
  | succ d ih=>intro i hj;have h1:=ih i (by omega);have h2:=h (i+d+1) hj;exact Int.lt_trans h1 h2
 intro i j hi hj hij;have:=key (j-i-1) i (by omega);simpa [show i+(j-i-1)+1=j by omega] using this
theorem conds_right{m:Gr.Mf}(h1:Cond1 m)(h2:Cond2 m)(h3:Cond3 m)(h4:Cond4 m)(h5:Cond5 m)(h6:Cond6 m)(h7:Cond7 m): Gr.RightM fitsP m:=by
 obtain⟨a1,a2,a3,a4⟩:=h1
 have hen:∀x∈m.ents,okEn x=true∧Tab.nz x=true∧badE m.graph x=false:=fun x hx=>by
  obtain⟨j,hj,rfl⟩:=List.mem_iff_getElem.1 hx;obtain⟨b1,b2,b3,-⟩:=h5 j hj;exact⟨b1,b2,b3⟩
 refine⟨numB_iff.1 a1,numB_iff.1 a2,checkR_zero a3,strict_ids h2,h3,fun x hx=>numB_iff.1 (h4 x hx),fun x hx=>?_,?_,fun x hx=>badE_no.1 (hen x hx).2.2,a4,fun x hx=>lineB_iff.1 (h7 x hx),h6⟩
 ·obtain⟨b1,b2,-⟩:=hen x hx;obtain⟨c1,c2,c3,c4⟩:=okEn_iff.1 b1;exact⟨c1,c2,c3,c4,b2⟩
 ·have hk:∀x∈m.ents,0≤x.key∧x.key<64:=fun x hx=>(okEn_iff.1 (hen x hx).1).2.1
  exact strict_ents hk fun j hj=>(num_lt (hk _ (List.getElem_mem _)) (hk _ (List.getElem_mem _))).2 ((h5 (j+1) hj).2.2.2 j rfl)
theorem right_conds{m:Gr.Mf}(h:Gr.RightM fitsP m): Cond1 m∧Cond2 m∧Cond3 m∧Cond4 m∧Cond5 m∧Cond6 m∧Cond7 m:=by
 refine⟨⟨numB_iff.2 h.ep,numB_iff.2 h.pl,checkR_ok h.gr.len h.gr,h.ol⟩,fun j hj=>?_,h.of,fun x hx=>numB_iff.2 (h.o4 x hx),fun j hj=>?_,h.pn,fun x hx=>lineB_iff.2 (h.ou x hx)⟩
 ·exact List.pairwise_iff_getElem.1 h.so j (j+1) (by omega) hj (by omega)
 ·obtain⟨c1,c2,c3,c4,c5⟩:=h.en _ (List.getElem_mem hj);refine⟨okEn_iff.2 ⟨c1,c2,c3,c4⟩,c5,badE_no.2 (h.ek _ (List.getElem_mem hj)),fun i hi=>?_⟩;subst hi;have hlt:=List.pairwise_iff_getElem.1 h.ei i (i+1) (by omega) hj (by omega);exact(num_lt (h.en _ (List.getElem_mem _)).2.1 c2).1 hlt
theorem ret22_end{w W:World}{b:Bool}{a:Act}{m:Gr.Mf}(h:Ret22 w b a W)(e:b=rightB m): bodyPost Tryz.prog Tryz.f24 (Gives (.bool (rightB m)) w) .ret a W:=by
 obtain⟨t,d⟩:=a;obtain⟨h1,h2,h3⟩:=h;simp only at h1 h2;subst h2;refine bodyPost_ret (v:=.bool b) ?_ rfl ⟨by rw[e],h3⟩;simp[results,Tryz.results24,go_sem];rw[←Array.getD_eq_getD_getElem?,h1]
theorem rightB_no{m:Gr.Mf}(h:¬Gr.RightM fitsP m): false=rightB m:=by
 cases hb:rightB m
 ·rfl
 ·exact absurd (rightB_iff.1 hb) h
theorem refRight13_any(c:MfC)(m:Gr.Mf)(w:World)(h:MfIs w c m): Calls Tryz.prog 24 #[.agg #[.int .i64 c.epoch,.int .i64 c.plans,.slice c.ao c.no c.co,.slice c.ag c.ng c.cg,.slice c.ae c.ne c.ce,.slice c.ax c.nx c.cx,.slice c.ap c.np c.cp]] w (Gives (.bool (rightB m)) w):=by
 have HM:=hY h;have hbx:=heap_new_at w (.cells (boxM c) 47) _ rfl;have HBX:=hY hbx;clear h hbx;go_enter Tryz.func24,Tryz.ntmps24
 iterate 11 go_step
 have hno:∀{a' w'},Ret22 w false a' w'→¬Gr.RightM fitsP m→bodyPost Tryz.prog Tryz.f24 (Gives (.bool (rightB m)) w) .ret a' w':=fun hr hn=>ret22_end hr (rightB_no hn)
 refine rm_p1 m w _ w.heap.size c _ _ ⟨?_,?_,?_,?_⟩ (HM.o.grew gw) (fun hc a' w' hr=>hno hr fun q=>hc (right_conds q).1) fun h1 a1 w1 g1 P1=>?_
 ·rfl
 ·rfl
 ·exact(Grew.refl w).alloc _
 ·exact HBX.o
 have hm1:=HM.o.grew P1.g;refine rm_p2 m w _ w.heap.size c _ _ P1 hm1 (fun hc a' w' hr=>hno hr fun q=>hc (right_conds q).2.1) fun h2 a2 w2 g2 P2=>?_
 have hm2:=HM.o.grew P2.g
 have hne:0<m.graph.length:=by
  obtain⟨n,hn⟩:=source_some (checkR_zero h1.2.2.1)
  cases hg:m.graph with
  | nil=>rw[hg] at hn;simp[Gr.nodeOf,Gr.find] at hn
  | cons x l=>simp
 refine rm_p3 m w _ w.heap.size c _ _ P2 hm2 hne (fun hc a' w' hr=>hno hr fun q=>hc (right_conds q).2.2.1) fun h3 a3 w3 g3 P3=>?_
 have hm3:=HM.o.grew P3.g;refine rm_p4 m w _ w.heap.size c _ _ P3 hm3 (fun hc a' w' hr=>hno hr fun q=>hc (right_conds q).2.2.2.1) fun h4 a4 w4 g4 P4=>?_
 have hm4:=HM.o.grew P4.g;refine rm_p5 m w _ w.heap.size c _ _ P4 hm4 (fun hc a' w' hr=>hno hr fun q=>hc (right_conds q).2.2.2.2.1) fun h5 a5 w5 g5 P5=>?_
 have hm5:=HM.o.grew P5.g;refine rm_p6 m w _ w.heap.size c _ _ P5 hm5 (fun hc a' w' hr=>hno hr fun q=>hc (right_conds q).2.2.2.2.2.1) fun h6 a6 w6 g6 P6=>?_
 have hm6:=HM.o.grew P6.g;exact rm_p7 m w _ w.heap.size c _ _ P6 hm6 (fun hc a' w' hr=>hno hr fun q=>hc (right_conds q).2.2.2.2.2.2) fun h7 a7 w7 hr=>ret22_end hr (rightB_iff.2 (conds_right h1 h2 h3 h4 h5 h6 h7)).symm
end Go.Proofs.YtipgfjihdglocaaGreat
