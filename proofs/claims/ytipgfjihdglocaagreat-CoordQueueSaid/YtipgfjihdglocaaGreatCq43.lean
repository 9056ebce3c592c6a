import Derived.Test.YtipgfjihdglocaaGreatCq39
import Derived.Test.YtipgfjihdglocaaGreatCq41
import Derived.Test.YtipgfjihdglocaaGreatCq33
import Derived.Test.YtipgfjihdglocaaGreatCq37
import Derived.Deep.QuietTactic
import Derived.BigQuiet
import Derived.Deep.LoopGhost
import Derived.Deep.RegionHeld3
import Derived.Deep.CutBlock
import Derived.Test.YtipgfjihdglocaaGreatCq0
set_option linter.unusedSimpArgs false
set_option linter.unusedVariables false
set_option maxRecDepth 100000
set_option maxHeartbeats 64000000
namespace Go.Proofs.YtipgfjihdglocaaGreat
open Go.RowKit Ga
theorem AllCame.grew{W W':World}{g:List Gr.Nd}{m:List (Who×AkC)}{f:Who→AkP}(h:AllCame W g m f)(q:Grew W W'): AllCame W' g m f:=fun t ht=>by
 obtain⟨c,h1,h2⟩:=h t ht;exact⟨c,h1,h2.grew q⟩
def ZMF:Value:=.tuple #[.agg #[.int .i64 0,.int .i64 0,.slice none 0 0,.slice none 0 0,.slice none 0 0,.slice none 0 0,.slice none 0 0],.int .i64 1]
open Classical in
theorem eqNds_iff{a b:List Gr.Nd}: eqNds a b=true↔a=b:=by unfold eqNds;rw[decide_eq_true_eq]
theorem setT_le(m:List Tab.En)(x:Tab.En): (Tab.setT m x).length≤m.length+1:=by
 unfold Tab.setT;split
 ·rw[List.length_cons];have:=List.length_filter_le (fun y=>Tab.num y != Tab.num x) m;omega
 ·have:=List.length_filter_le (fun y=>Tab.num y != Tab.num x) m;omega
theorem newT_le(l:List Tab.En): (Tab.newT l).length≤l.length:=by
 have h:∀(l m:List Tab.En),(l.foldl Tab.setT m).length≤m.length+l.length:=by
  intro l
  induction l with
  | nil=>intro m;simp
  |cons x l ih =>
   intro m;have h1:=ih (Tab.setT m x);have h2:=setT_le m x;rw[List.foldl_cons,List.length_cons];omega
 have:=h l [];rw[List.length_nil,Nat.zero_add] at this;exact this
theorem entG_le{W:World}{g:List Gr.Nd}{m:List (Who×AkC)}{f:Who→AkP}(h:AllCame W g m f): (entG g f (tasksOf g)).length≤(tasksOf g).length*100 :=
 flat_bound fun y hy=>by
  obtain⟨-,-,-,-,-,q4,-⟩:=h y hy;split
  ·simp
  ·exact q4
def frame12(u:Nat→Value): Act:={ tmps:=#[u 0,u 1,u 2,u 3,u 4,u 5,u 6,u 7,u 8,u 9,u 10,u 11,u 12,u 13,u 14,u 15,u 16,u 17,u 18,u 19,u 20,u 21,u 22,u 23,u 24,u 25,u 26,u 27,u 28,u 29,u 30,u 31,u 32,u 33,u 34,u 35,u 36,u 37,u 38,u 39,u 40,u 41,u 42,u 43,u 44,u 45,u 46,u 47,u 48,u 49,u 50,u 51,u 52,u 53,u 54,u 55,u 56,u 57,u 58,u 59,u 60,u 61,u 62,u 63,u 64,u 65,u 66,u 67,u 68,u 69,u 70,u 71,u 72,u 73,u 74,u 75,u 76,u 77,u 78,u 79,u 80,u 81,u 82,u 83,u 84,u 85,u 86,u 87,u 88,u 89,u 90,u 91,u 92,u 93,u 94,u 95,u 96,u 97,u 98,u 99,u 100],defers:=[] }
def starts12(n:Nat): Code→Bool
 | .region k _ _=>k==n
 | .seq a _=>starts12 n a
 | _=>false
def from12(n:Nat): Code→Option Code
 |.seq a b=>if starts12 n a then some (.seq a b) else match from12 n a with
  | some c=>some c
  | none=>from12 n b
 | .loop c=>from12 n c
 | .block _ c=>from12 n c
 | .scope c=>from12 n c
 |.cond _ a b=>match from12 n a with
  | some c=>some c
  | none=>from12 n b
 | _=>none
noncomputable def tail12(n:Nat): Code:=(Tryz.f113.body.bind (from12 n)).getD .skip
theorem MfOwn.gr'{base:Nat}{w w':World}{c:MfC}{m:Gr.Mf}(h:MfOwn base w c m)(g:Grew w w'): MfOwn base w' c m:=h.leaves (T:=[]) (Leaves.grew g) (by simp[NoData])
def okMakeP(M pm:Gr.Mf)(g:List Gr.Nd): Prop:=rightB M=true∧pm.epoch<M.epoch∧pm.graph=g
def MakeOut(w:World)(ep pp:Int)(pm:Gr.Mf)(g:List Gr.Nd)(os:List Int)(xs:List Gr.Ln)(m2:List Tab.En)(l9:List Gr.Nd)(plan:List Gr.Stp)(e:Ending)(w':World): Prop :=
 ∃s,s.Perm m2∧(s.Pairwise fun a b=>Tab.num a≤Tab.num b)∧(okMakeP ⟨ep,pp,os,Gr.normG l9,s,xs,plan⟩ pm g→∃c':MfC,e = .returned (.tuple #[.agg #[.int .i64 c'.epoch,.int .i64 c'.plans,.slice c'.ao c'.no c'.co,.slice c'.ag c'.ng c'.cg,.slice c'.ae c'.ne c'.ce,.slice c'.ax c'.nx c'.cx,.slice c'.ap c'.np c'.cp],.int .i64 0])∧MfOwn 0 w' c' ⟨ep,pp,os,Gr.normG l9,s,xs,plan⟩∧Grew w w') ∧
  (¬okMakeP ⟨ep,pp,os,Gr.normG l9,s,xs,plan⟩ pm g→e = .returned ZMF∧Grew w w')
structure Pre20 (w0 W:World) (x P Z M tt bt nt:Nat) (a:Act) (gv v11:Value) (ep pp pe:Int) (pc:MfC) (os:List Int) (xs:List Gr.Ln) (plan:List Gr.Stp) (m2:List Tab.En) (l9:List Gr.Nd) (ao:Option Addr) (co:Nat) (ax:Option Addr) (cx:Nat) (ap:Option Addr) (cp:Nat) (lcP:List StC):Prop where
 fr:a=frame12 fun i=>a.tmps.getD i undef
 t0:a.tmps.getD 0 undef = .pointer (some ⟨x,0,none⟩)
 t4:a.tmps.getD 4 undef = .pointer (some ⟨P,0,none⟩)
 t6:a.tmps.getD 6 undef = .pointer (some ⟨Z,0,none⟩)
 t8:a.tmps.getD 8 undef = .pointer (some ⟨M,0,none⟩)
 t9:a.tmps.getD 9 undef = .pointer (some ⟨tt,0,none⟩)
 t11:a.tmps.getD 11 undef=v11
 g:Grew w0 W
 pb:W.heap[P]? = some (.cells #[.int .i64 pe,.int .i64 pc.plans,.slice pc.ao pc.no pc.co,.slice pc.ag pc.ng pc.cg,.slice pc.ae pc.ne pc.ce,.slice pc.ax pc.nx pc.cx,.slice pc.ap pc.np pc.cp] 47)
 zb:W.heap[Z]? = some (.cells #[.int .i64 0,.int .i64 0,.slice none 0 0,.slice none 0 0,.slice none 0 0,.slice none 0 0,.slice none 0 0] 47)
 mb:W.heap[M]? = some (.cells #[.int .i64 ep,.int .i64 pp,.slice ao os.length co,.slice none 0 0,.slice none 0 0,.slice ax xs.length cx,.slice ap plan.length cp] 47)
 pz:P≠Z
 pm:P≠M
 zm:Z≠M
 z0:w0.heap.size≤Z
 m0:w0.heap.size≤M
 xc:w0.cell? ⟨x,0,none⟩=some gv
 xl:x<w0.heap.size
 os:OwnAt w0.heap.size 3 1 encN W (.slice ao os.length co) os
 xs:OwnAt w0.heap.size 122 5 encLn W (.slice ax xs.length cx) xs
 po:StepsOwn w0.heap.size W (.slice ap plan.length cp) lcP
 pi:StepsIn w0.heap.size W lcP plan
 tab:TableAt W tt bt nt m2
 nd:NodesAt W v11 l9
def ButM(W W':World): Prop:=∀(b:Nat) (cs:Array Value) (t:TypeId),W.heap[b]? = some (.cells cs t)→t≠47→W'.heap[b]? = some (.cells cs t)
theorem OwnAt.butM{α:Type}{base:Nat}{e:TypeId}{k:Nat}{enc:α→List Value}{w w':World}{v:Value}{l:List α}(h:OwnAt base e k enc w v l)(hb:ButM w w')(he:e≠47): OwnAt base e k enc w' v l :=
 OwnAt.same h fun b hv=>by
  obtain⟨-,cs,hc⟩:=OwnAt.block h hv;rw[hb b cs _ hc he,hc]
theorem OwnsNd.butM{base:Nat}{w w':World}{c:NdC}{n:Gr.Nd}(h:OwnsNd base w c n)(hb:ButM w w'): OwnsNd base w' c n:=⟨OwnAt.butM h.1 hb (by decide),OwnAt.butM h.2 hb (by decide)⟩
theorem NodesV.butM{base:Nat}{g:List Gr.Nd}{v:Value}{w w':World}(h:NodesV base g v w)(hb:ButM w w'): NodesV base g v w':=by
 obtain⟨a,c,lc,h1,h2,h3⟩:=h;refine⟨a,c,lc,h1,OwnAt.butM h2 hb (by decide),Rel.mono (fun c n q=>?_) h3⟩;have o:=q.2.butM hb;exact⟨o.is q.1,o⟩
theorem StepsIn.butM{base:Nat}{w w':World}{lc:List StC}{l:List Gr.Stp}(h:StepsIn base w lc l)(hb:ButM w w'): StepsIn base w' lc l:=h.map fun _ _ o=>o.butM hb
theorem make_tail(w0 W:World)(x P Z M tt bt nt:Nat)(a0:Act)(gv v11:Value)(ep pp pe:Int)(pc:MfC)(pm:Gr.Mf)(g:List Gr.Nd)(os:List Int)(xs:List Gr.Ln)(plan:List Gr.Stp)(m2:List Tab.En)(l9:List Gr.Nd)(ao:Option Addr)(co:Nat)(ax:Option Addr)(cx:Nat)(ap:Option Addr)(cp:Nat)(lcP:List StC)
  (h:Pre20 w0 W x P Z M tt bt nt a0 gv v11 ep pp pe pc os xs plan m2 l9 ao co ax cx ap cp lcP) (hpe:pm.epoch=pe) (hr9:Gr.RightR l9) (hs9:Small l9) (hps:∀s∈plan,s.nd.frm.length≤100∧s.nd.prog.length≤1000) (hml:m2.length≤100000)
  (hsa:∀W2,Grew w0 W2→Calls Tryz.prog 19 #[.slice pc.ag pc.ng pc.cg,gv] W2 (Gives (.bool (eqNds pm.graph g)) W2)) :
  Code.wp Tryz.prog (tail12 20) (bodyPost Tryz.prog Tryz.f113 (MakeOut w0 ep pp pm g os xs m2 l9 plan)) a0 W:=by
 obtain⟨hfr,t0,t4,t6,t8,t9,t11,hg,hpb,hzb,hmb,hpz,hpm,hzm,hz0,hm0,hxc,hxl,hos,hxs,hpo,hpi,htab,hnd⟩:=h;obtain⟨u,hu⟩:∃u:Nat→Value,u=fun i=>a0.tmps.getD i undef:=⟨_,rfl⟩
 rw[←hu] at hfr;have u0:u 0=_:=(congrFun hu 0).trans t0;have u4:u 4=_:=(congrFun hu 4).trans t4;have u6:u 6=_:=(congrFun hu 6).trans t6;have u8:u 8=_:=(congrFun hu 8).trans t8;have u9:u 9=_:=(congrFun hu 9).trans t9;have u11:u 11=_:=(congrFun hu 11).trans t11;have HNO:=hY fun W2 (q:Grew W W2)=>normO_any v11 l9 W2 (hnd.grew q) hs9 hr9
 have HAL:=hY fun W2 (q:Grew W W2)=>tabAll_any W2 tt bt nt m2 (htab.grew q)
 have HSA:=hY hsa;obtain⟨a11,c11,rfl,-,-⟩:=hnd.openC;clear hu t0 t4 t6 t8 t9 t11 hnd htab hsa;subst hfr
 conv=>arg 2;whnf
 unfold frame12;rw[u0,u4,u6,u8,u9,u11];clear u0 u4 u6 u8 u9 u11;have HG:=hY hg;have HPB:=hY hpb;have HZB:=hY hzb;have HMB:=hY hmb;have HOS:=hY hos;have HXS:=hY hxs;have HPO:=hY hpo;have HPI:=hY hpi;have HXC:=hY hxc;have HPE:=hY hpe;have HR9:=hY hr9;have HS9:=hY hs9;have HPS:=hY hps;have HML:=hY hml;have HNE:Hid ((P≠Z∧P≠M∧Z≠M)∧w0.heap.size≤Z∧w0.heap.size≤M∧x<w0.heap.size):=hY ⟨⟨hpz,hpm,hzm⟩,hz0,hm0,hxl⟩;have m0:=cell_of (o:=0) hmb;have m1:=cell_of (o:=1) hmb;have m2':=cell_of (o:=2) hmb;have m3:=cell_of (o:=3) hmb;have m4:=cell_of (o:=4) hmb;have m5:=cell_of (o:=5) hmb;have m6:=cell_of (o:=6) hmb;simp at m0 m1 m2' m3 m4 m5 m6;have f3:=frozen_of (o:=3) hmb;have f4:=frozen_of (o:=4) hmb;have pM:=Pre.mk (heap_lt hmb);clear hg hpb hzb hmb hos hxs hpo hpi hxc hpe hr9 hs9 hps hml hpz hpm hzm hz0 hm0 hxl
 go_upto_region 21 with (first
  | (go_at_call 55;((with_reducible refine Calls.mono (HNO.o _ ?_) ?_));(focus(exact gw));rintro e w3 ⟨v3,lc3,rfl,hv3,hi3,R3,n3,rfl⟩;obtain⟨a3,c3,hv9,-,-⟩:=(hi3.at hv3).openC;subst hv9;(have HV3:Hid (NodesV _ (Gr.normG l9) _ _):=hY ⟨a3,c3,lc3,rfl,hv3,hi3⟩);clear hv3 hi3)
  | (go_at_call 161;((with_reducible refine Calls.mono (HAL.o _ ?_) ?_));(focus(exact gw));rintro e w4 ⟨v4,s,rfl,hs4,hp4,hso4,R4,n4,rfl⟩;obtain⟨a4,c4,rfl⟩:=(OwnAt.rows hs4 encEn_len).len;(have HS4:=hY hs4);(have HP4:=hY hp4);(have HSO4:=hY hso4);clear hs4 hp4 hso4))
 obtain⟨wx,hwx⟩:∃wx,wx=(((W.setCell ⟨M,3,none⟩ (.slice a3 (Gr.normG l9).length c3)).setCell ⟨M,4,none⟩ (.slice a4 s.length c4)).more R3 n3).more R4 n4:=⟨_,rfl⟩;have hg4:Grew W ((W.more R3 n3).more R4 n4):=gw;have h8:SameBut M ((W.more R3 n3).more R4 n4) wx:=by rw[hwx];exact((((SameBut.refl M W).setr 3 _).setr 4 _).more R3 n3).more R4 n4
 have hM8:wx.heap[M]? = some (.cells #[.int .i64 ep,.int .i64 pp,.slice ao os.length co,.slice a3 (Gr.normG l9).length c3,.slice a4 s.length c4,.slice ax xs.length cx,.slice ap plan.length cp] 47):=by
  rw[hwx];refine grew_heap (((Grew.refl _).more R3 n3).more R4 n4) ?_;exact set_self (set_self HMB.o)
 have hPx:wx.heap[P]? = _:=(h8.2 P HNE.o.1.2.1).trans (grew_heap hg4 HPB.o);have hZx:wx.heap[Z]? = _:=(h8.2 Z HNE.o.1.2.2).trans (grew_heap hg4 HZB.o)
 have hgx:Grew w0 wx:=by
  rw[hwx];exact(((HG.o.set HNE.o.2.2.1 _).set HNE.o.2.2.1 _).more R3 n3).more R4 n4
 have hB:∀W',SameBut Z wx W'→ButM ((W.more R3 n3).more R4 n4) W':=fun W' h6 b cs t hc ht=>by
  have e1:b≠M:=fun e=>by
   rw[e,grew_heap hg4 HMB.o] at hc;cases hc;exact ht rfl
  have e2:b≠Z:=fun e=>by
   rw[e,grew_heap hg4 HZB.o] at hc;cases hc;exact ht rfl
  rw[h6.2 b e2,h8.2 b e1];exact hc
 have hmf:∀W',SameBut Z wx W'→MfOwn 0 W' ⟨ep,pp,ao,os.length,co,a3,(Gr.normG l9).length,c3,a4,s.length,c4,ax,xs.length,cx,ap,plan.length,cp⟩ ⟨ep,pp,os,Gr.normG l9,s,xs,plan⟩:=fun W' h6=>by
  have hb:=hB W' h6;have hv:=NodesV.st _ _ _ _ _ HV3.o (gw:Grew _ ((W.more R3 n3).more R4 n4));have hpi:=StepsIn.butM (HPI.o.grew hg4) hb;have lo:=Nat.zero_le;obtain⟨_,_,lcg,eg,hg1,hg2⟩:=hv.butM hb;have key:∀{b:Nat} {c:NdC} {n:Gr.Nd},OwnsNd b W' c n→OwnsNd 0 W' c n:=fun h=>⟨OwnAt.low h.1 (lo _),OwnAt.low h.2 (lo _)⟩
  refine⟨rfl,rfl,OwnAt.low (OwnAt.butM (HOS.o.grew hg4) hb (by decide)) (lo _),⟨lcg,OwnAt.low hg1 (lo _),Rel.mono (fun _ _ h=>⟨h.1,key h.2⟩) hg2⟩,OwnAt.low (OwnAt.butM (HS4.o.grew gw) hb (by decide)) (lo _),OwnAt.low (OwnAt.butM (HXS.o.grew hg4) hb (by decide)) (lo _),⟨lcP,OwnAt.low (OwnAt.butM (HPO.o.grew hg4) hb (by decide)) (lo _),Rel.mono (fun _ _ h=>⟨h.1,key h.2⟩) hpi⟩⟩
 have hsl:s.length≤100000:=by
  have h1:=HP4.o.length_eq;have h2:=HML.o;omega
 have HMF:=hY hmf;rw[←hwx];clear hwx hg4 h8 hB hmf HV3 HS4 m0 m1 m2' m3 m4 m5 m6 f3 f4 pM HOS HXS HPO HPI HG HPB HZB HMB;have hsn:=small_norm HR9.o HS9.o;have HRT:=hY fun W2 (q:Grew wx W2)=>manRight_any ⟨ep,pp,ao,os.length,co,a3,(Gr.normG l9).length,c3,a4,s.length,c4,ax,xs.length,cx,ap,plan.length,cp⟩ ⟨ep,pp,os,Gr.normG l9,s,xs,plan⟩ W2 ((HMF.o wx (SameBut.refl _ _)).is.grew q) hsn HPS.o hsl
 have HSA2:=hY fun W2 (q:Grew wx W2)=>HSA.o W2 (hgx.trans q)
 have HGX:=hY hgx;have m0:=cell_of (o:=0) hM8;have m1:=cell_of (o:=1) hM8;have m2':=cell_of (o:=2) hM8;have m3:=cell_of (o:=3) hM8;have m4:=cell_of (o:=4) hM8;have m5:=cell_of (o:=5) hM8;have m6:=cell_of (o:=6) hM8;have q0:=cell_of (o:=0) hPx;have q3:=cell_of (o:=3) hPx;have z0:=cell_of (o:=0) hZx;have z1:=cell_of (o:=1) hZx;have z2:=cell_of (o:=2) hZx;have z3:=cell_of (o:=3) hZx;have z4:=cell_of (o:=4) hZx;have z5:=cell_of (o:=5) hZx;have z6:=cell_of (o:=6) hZx;simp at m0 m1 m2' m3 m4 m5 m6 q0 q3 z0 z1 z2 z3 z4 z5 z6;have f0:=frozen_of (o:=0) hZx;have f1:=frozen_of (o:=1) hZx;have f2:=frozen_of (o:=2) hZx;have f3:=frozen_of (o:=3) hZx;have f4:=frozen_of (o:=4) hZx;have f5:=frozen_of (o:=5) hZx;have f6:=frozen_of (o:=6) hZx;have pm8:=Pre.mk (heap_lt hM8);have pmP:=Pre.mk (heap_lt hPx);have pmZ:=Pre.mk (heap_lt hZx);have x02:=grew_cellS hgx HXC.o;have px2:=Pre.ofCell x02;have nMZ:¬(M=Z):=fun e=>HNE.o.1.2.2 e.symm
 have nZM:¬(Z=M):=HNE.o.1.2.2;clear hM8 hPx hZx hgx hsl hsn;cases hrb:rightB ⟨ep,pp,os,Gr.normG l9,s,xs,plan⟩
 ·rw[hrb] at HRT;have HRB:=hY hrb;clear hrb;refine wp_region_seq 20 Tryz.mixed (by kernel_rfl) (by kernel_rfl) ?_
  iterate 1
   apply Seq.val
   focus
    rintro w1 u ⟨R1,n1,rfl⟩ hF;simp[moreFacts,Fact.more,Oper.deps,Region.binds,List.filter_cons,World.more_drew] at hF;simp[putFacts,Oper.deps,Region.binds,List.filter_cons,Region.dstOf,Fact.at,Act.put,World.more_drew];go_wp2;exact⟨gw,rfl,_,_,rfl,rfl,rfl⟩
  apply Seq.val
  focus
   rintro w1 u ⟨R1,n1,rfl⟩ hF;simp[moreFacts,Fact.more,Oper.deps,Region.binds,List.filter_cons,World.more_drew] at hF;simp[putFacts,Oper.deps,Region.binds,List.filter_cons,Region.dstOf,Fact.at,Act.put,World.more_drew]
   go_wp2_with (first
    | (go_at_call 90;go_loud (refine(HRT.o _ gw).mono ?_);rintro e w5 ⟨rfl,R5,n5,rfl⟩)
    )
   exact⟨gw,rfl,_,_,rfl,rfl,rfl⟩
  iterate 18
   apply Seq.val
   focus
    rintro w1 u ⟨R1,n1,rfl⟩ hF;simp[moreFacts,Fact.more,Oper.deps,Region.binds,List.filter_cons,World.more_drew] at hF;simp[putFacts,Oper.deps,Region.binds,List.filter_cons,Region.dstOf,Fact.at,Act.put,World.more_drew];go_wp2;exact⟨gw,rfl,_,_,rfl,rfl,rfl⟩
  rintro u w1 ⟨R1,n1,rfl⟩ hF;clear hF;simp[putFacts,Region.dstOf,Fact.at,Act.put,List.range_succ,World.more_drew]
  go_wp2_with fail
  refine bodyPost_ret (v:=ZMF) (by simp[results,Tryz.results113,go_sem,ZMF,pmZ,z0,z1,z2,z3,z4,z5,z6]) rfl ?_;refine⟨s,HP4.o,HSO4.o,fun q=>absurd q.1 (by rw[HRB.o];decide),fun _=>⟨rfl,?_⟩⟩
  repeat (first|with_reducible exact HGX.o|with_reducible apply Grew.more|with_reducible apply Grew.alloc|refine Grew.set ?_ HNE.o.2.1 _)
 rw[hrb] at HRT;have HRB:=hY hrb;clear hrb;cases hd:decide (ep≤pe)
 case true =>
  have HD:=hY hd;clear hd;refine wp_region_seq 20 Tryz.mixed (by kernel_rfl) (by kernel_rfl) ?_
  iterate 1
   apply Seq.val
   focus
    rintro w1 u ⟨R1,n1,rfl⟩ hF;simp[moreFacts,Fact.more,Oper.deps,Region.binds,List.filter_cons,World.more_drew] at hF;simp[putFacts,Oper.deps,Region.binds,List.filter_cons,Region.dstOf,Fact.at,Act.put,World.more_drew];go_wp2;exact⟨gw,rfl,_,_,rfl,rfl,rfl⟩
  apply Seq.val
  focus
   rintro w1 u ⟨R1,n1,rfl⟩ hF;simp[moreFacts,Fact.more,Oper.deps,Region.binds,List.filter_cons,World.more_drew] at hF;simp[putFacts,Oper.deps,Region.binds,List.filter_cons,Region.dstOf,Fact.at,Act.put,World.more_drew]
   go_wp2_with (first
    | (go_at_call 90;go_loud (refine(HRT.o _ gw).mono ?_);rintro e w5 ⟨rfl,R5,n5,rfl⟩)
    )
   exact⟨gw,rfl,_,_,rfl,rfl,rfl⟩
  iterate 6
   apply Seq.val
   focus
    rintro w1 u ⟨R1,n1,rfl⟩ hF;simp[moreFacts,Fact.more,Oper.deps,Region.binds,List.filter_cons,World.more_drew] at hF;simp[putFacts,Oper.deps,Region.binds,List.filter_cons,Region.dstOf,Fact.at,Act.put,World.more_drew];go_wp2;exact⟨gw,rfl,_,_,rfl,rfl,rfl⟩
  apply Seq.val
  focus
   rintro w1 u ⟨R1,n1,rfl⟩ hF;simp[moreFacts,Fact.more,Oper.deps,Region.binds,List.filter_cons,World.more_drew] at hF;simp[putFacts,Oper.deps,Region.binds,List.filter_cons,Region.dstOf,Fact.at,Act.put,World.more_drew];have hd:=HD.o;go_wp2;exact⟨gw,rfl,_,_,rfl,rfl,rfl⟩
  iterate 11
   apply Seq.val
   focus
    rintro w1 u ⟨R1,n1,rfl⟩ hF;simp[moreFacts,Fact.more,Oper.deps,Region.binds,List.filter_cons,World.more_drew] at hF;simp[putFacts,Oper.deps,Region.binds,List.filter_cons,Region.dstOf,Fact.at,Act.put,World.more_drew];go_wp2;exact⟨gw,rfl,_,_,rfl,rfl,rfl⟩
  rintro u w1 ⟨R1,n1,rfl⟩ hF;clear hF;simp[putFacts,Region.dstOf,Fact.at,Act.put,List.range_succ,World.more_drew]
  go_wp2_with fail
  refine bodyPost_ret (v:=ZMF) (by simp[results,Tryz.results113,go_sem,ZMF,pmZ,z0,z1,z2,z3,z4,z5,z6]) rfl ?_;refine⟨s,HP4.o,HSO4.o,fun q=>?_,fun _=>⟨rfl,?_⟩⟩
  ·have h1:pm.epoch<ep:=q.2.1;rw[HPE.o] at h1;exact absurd h1 (Int.not_lt.2 (of_decide_eq_true HD.o))
  ·repeat (first|with_reducible exact HGX.o|with_reducible apply Grew.more|with_reducible apply Grew.alloc|refine Grew.set ?_ HNE.o.2.1 _)
 have HD:=hY hd;clear hd;cases heq:eqNds pm.graph g
 ·rw[heq] at HSA2;have HQ:=hY heq;clear heq;refine wp_region_seq 20 Tryz.mixed (by kernel_rfl) (by kernel_rfl) ?_
  iterate 1
   apply Seq.val
   focus
    rintro w1 u ⟨R1,n1,rfl⟩ hF;simp[moreFacts,Fact.more,Oper.deps,Region.binds,List.filter_cons,World.more_drew] at hF;simp[putFacts,Oper.deps,Region.binds,List.filter_cons,Region.dstOf,Fact.at,Act.put,World.more_drew];go_wp2;exact⟨gw,rfl,_,_,rfl,rfl,rfl⟩
  apply Seq.val
  focus
   rintro w1 u ⟨R1,n1,rfl⟩ hF;simp[moreFacts,Fact.more,Oper.deps,Region.binds,List.filter_cons,World.more_drew] at hF;simp[putFacts,Oper.deps,Region.binds,List.filter_cons,Region.dstOf,Fact.at,Act.put,World.more_drew]
   go_wp2_with (first
    | (go_at_call 90;go_loud (refine(HRT.o _ gw).mono ?_);rintro e w5 ⟨rfl,R5,n5,rfl⟩)
    )
   exact⟨gw,rfl,_,_,rfl,rfl,rfl⟩
  iterate 6
   apply Seq.val
   focus
    rintro w1 u ⟨R1,n1,rfl⟩ hF;simp[moreFacts,Fact.more,Oper.deps,Region.binds,List.filter_cons,World.more_drew] at hF;simp[putFacts,Oper.deps,Region.binds,List.filter_cons,Region.dstOf,Fact.at,Act.put,World.more_drew];go_wp2;exact⟨gw,rfl,_,_,rfl,rfl,rfl⟩
  apply Seq.val
  focus
   rintro w1 u ⟨R1,n1,rfl⟩ hF;simp[moreFacts,Fact.more,Oper.deps,Region.binds,List.filter_cons,World.more_drew] at hF;simp[putFacts,Oper.deps,Region.binds,List.filter_cons,Region.dstOf,Fact.at,Act.put,World.more_drew];have hd:=HD.o;go_wp2;exact⟨gw,rfl,_,_,rfl,rfl,rfl⟩
  iterate 8
   apply Seq.val
   focus
    rintro w1 u ⟨R1,n1,rfl⟩ hF;simp[moreFacts,Fact.more,Oper.deps,Region.binds,List.filter_cons,World.more_drew] at hF;simp[putFacts,Oper.deps,Region.binds,List.filter_cons,Region.dstOf,Fact.at,Act.put,World.more_drew];go_wp2;exact⟨gw,rfl,_,_,rfl,rfl,rfl⟩
  apply Seq.val
  focus
   rintro w1 u ⟨R1,n1,rfl⟩ hF;simp[moreFacts,Fact.more,Oper.deps,Region.binds,List.filter_cons,World.more_drew] at hF;simp[putFacts,Oper.deps,Region.binds,List.filter_cons,Region.dstOf,Fact.at,Act.put,World.more_drew]
   go_wp2_with (first
    | (go_at_call 19;go_loud (refine(HSA2.o _ gw).mono ?_);rintro e w5 ⟨rfl,R5,n5,rfl⟩)
    )
   exact⟨gw,rfl,_,_,rfl,rfl,rfl⟩
  iterate 2
   apply Seq.val
   focus
    rintro w1 u ⟨R1,n1,rfl⟩ hF;simp[moreFacts,Fact.more,Oper.deps,Region.binds,List.filter_cons,World.more_drew] at hF;simp[putFacts,Oper.deps,Region.binds,List.filter_cons,Region.dstOf,Fact.at,Act.put,World.more_drew];go_wp2;exact⟨gw,rfl,_,_,rfl,rfl,rfl⟩
  rintro u w1 ⟨R1,n1,rfl⟩ hF;clear hF;simp[putFacts,Region.dstOf,Fact.at,Act.put,List.range_succ,World.more_drew]
  go_wp2_with fail
  refine bodyPost_ret (v:=ZMF) (by simp[results,Tryz.results113,go_sem,ZMF,pmZ,z0,z1,z2,z3,z4,z5,z6]) rfl ?_;refine⟨s,HP4.o,HSO4.o,fun q=>?_,fun _=>⟨rfl,?_⟩⟩
  ·exact absurd (eqNds_iff.2 q.2.2) (by rw[HQ.o];decide)
  ·repeat (first|with_reducible exact HGX.o|with_reducible apply Grew.more|with_reducible apply Grew.alloc|refine Grew.set ?_ HNE.o.2.1 _)
 rw[heq] at HSA2;have HQ:=hY heq;clear heq;refine wp_region_seq 20 Tryz.mixed (by kernel_rfl) (by kernel_rfl) ?_
 iterate 1
  apply Seq.val
  focus
   rintro w1 u ⟨R1,n1,rfl⟩ hF;simp[moreFacts,Fact.more,Oper.deps,Region.binds,List.filter_cons,World.more_drew] at hF;simp[putFacts,Oper.deps,Region.binds,List.filter_cons,Region.dstOf,Fact.at,Act.put,World.more_drew];go_wp2;exact⟨gw,rfl,_,_,rfl,rfl,rfl⟩
 apply Seq.val
 focus
  rintro w1 u ⟨R1,n1,rfl⟩ hF;simp[moreFacts,Fact.more,Oper.deps,Region.binds,List.filter_cons,World.more_drew] at hF;simp[putFacts,Oper.deps,Region.binds,List.filter_cons,Region.dstOf,Fact.at,Act.put,World.more_drew]
  go_wp2_with (first
   | (go_at_call 90;go_loud (refine(HRT.o _ gw).mono ?_);rintro e w5 ⟨rfl,R5,n5,rfl⟩)
   )
  exact⟨gw,rfl,_,_,rfl,rfl,rfl⟩
 iterate 6
  apply Seq.val
  focus
   rintro w1 u ⟨R1,n1,rfl⟩ hF;simp[moreFacts,Fact.more,Oper.deps,Region.binds,List.filter_cons,World.more_drew] at hF;simp[putFacts,Oper.deps,Region.binds,List.filter_cons,Region.dstOf,Fact.at,Act.put,World.more_drew];go_wp2;exact⟨gw,rfl,_,_,rfl,rfl,rfl⟩
 apply Seq.val
 focus
  rintro w1 u ⟨R1,n1,rfl⟩ hF;simp[moreFacts,Fact.more,Oper.deps,Region.binds,List.filter_cons,World.more_drew] at hF;simp[putFacts,Oper.deps,Region.binds,List.filter_cons,Region.dstOf,Fact.at,Act.put,World.more_drew];have hd:=HD.o;go_wp2;exact⟨gw,rfl,_,_,rfl,rfl,rfl⟩
 iterate 8
  apply Seq.val
  focus
   rintro w1 u ⟨R1,n1,rfl⟩ hF;simp[moreFacts,Fact.more,Oper.deps,Region.binds,List.filter_cons,World.more_drew] at hF;simp[putFacts,Oper.deps,Region.binds,List.filter_cons,Region.dstOf,Fact.at,Act.put,World.more_drew];go_wp2;exact⟨gw,rfl,_,_,rfl,rfl,rfl⟩
 apply Seq.val
 focus
  rintro w1 u ⟨R1,n1,rfl⟩ hF;simp[moreFacts,Fact.more,Oper.deps,Region.binds,List.filter_cons,World.more_drew] at hF;simp[putFacts,Oper.deps,Region.binds,List.filter_cons,Region.dstOf,Fact.at,Act.put,World.more_drew]
  go_wp2_with (first
   | (go_at_call 19;go_loud (refine(HSA2.o _ gw).mono ?_);rintro e w5 ⟨rfl,R5,n5,rfl⟩)
   )
  exact⟨gw,rfl,_,_,rfl,rfl,rfl⟩
 iterate 2
  apply Seq.val
  focus
   rintro w1 u ⟨R1,n1,rfl⟩ hF;simp[moreFacts,Fact.more,Oper.deps,Region.binds,List.filter_cons,World.more_drew] at hF;simp[putFacts,Oper.deps,Region.binds,List.filter_cons,Region.dstOf,Fact.at,Act.put,World.more_drew];go_wp2;exact⟨gw,rfl,_,_,rfl,rfl,rfl⟩
 rintro u w1 ⟨R1,n1,rfl⟩ hF;clear hF;simp[putFacts,Region.dstOf,Fact.at,Act.put,List.range_succ,World.more_drew]
 go_wp2_with fail
 refine bodyPost_ret (v:=.tuple #[.agg #[.int .i64 ((⟨ep,pp,ao,os.length,co,a3,(Gr.normG l9).length,c3,a4,s.length,c4,ax,xs.length,cx,ap,plan.length,cp⟩:MfC)).epoch,.int .i64 ((⟨ep,pp,ao,os.length,co,a3,(Gr.normG l9).length,c3,a4,s.length,c4,ax,xs.length,cx,ap,plan.length,cp⟩:MfC)).plans,.slice ((⟨ep,pp,ao,os.length,co,a3,(Gr.normG l9).length,c3,a4,s.length,c4,ax,xs.length,cx,ap,plan.length,cp⟩:MfC)).ao ((⟨ep,pp,ao,os.length,co,a3,(Gr.normG l9).length,c3,a4,s.length,c4,ax,xs.length,cx,ap,plan.length,cp⟩:MfC)).no ((⟨ep,pp,ao,os.length,co,a3,(Gr.normG l9).length,c3,a4,s.length,c4,ax,xs.length,cx,ap,plan.length,cp⟩:MfC)).co,.slice ((⟨ep,pp,ao,os.length,co,a3,(Gr.normG l9).length,c3,a4,s.length,c4,ax,xs.length,cx,ap,plan.length,cp⟩:MfC)).ag ((⟨ep,pp,ao,os.length,co,a3,(Gr.normG l9).length,c3,a4,s.length,c4,ax,xs.length,cx,ap,plan.length,cp⟩:MfC)).ng ((⟨ep,pp,ao,os.length,co,a3,(Gr.normG l9).length,c3,a4,s.length,c4,ax,xs.length,cx,ap,plan.length,cp⟩:MfC)).cg,.slice ((⟨ep,pp,ao,os.length,co,a3,(Gr.normG l9).length,c3,a4,s.length,c4,ax,xs.length,cx,ap,plan.length,cp⟩:MfC)).ae ((⟨ep,pp,ao,os.length,co,a3,(Gr.normG l9).length,c3,a4,s.length,c4,ax,xs.length,cx,ap,plan.length,cp⟩:MfC)).ne ((⟨ep,pp,ao,os.length,co,a3,(Gr.normG l9).length,c3,a4,s.length,c4,ax,xs.length,cx,ap,plan.length,cp⟩:MfC)).ce,.slice ((⟨ep,pp,ao,os.length,co,a3,(Gr.normG l9).length,c3,a4,s.length,c4,ax,xs.length,cx,ap,plan.length,cp⟩:MfC)).ax ((⟨ep,pp,ao,os.length,co,a3,(Gr.normG l9).length,c3,a4,s.length,c4,ax,xs.length,cx,ap,plan.length,cp⟩:MfC)).nx ((⟨ep,pp,ao,os.length,co,a3,(Gr.normG l9).length,c3,a4,s.length,c4,ax,xs.length,cx,ap,plan.length,cp⟩:MfC)).cx,.slice ((⟨ep,pp,ao,os.length,co,a3,(Gr.normG l9).length,c3,a4,s.length,c4,ax,xs.length,cx,ap,plan.length,cp⟩:MfC)).ap ((⟨ep,pp,ao,os.length,co,a3,(Gr.normG l9).length,c3,a4,s.length,c4,ax,xs.length,cx,ap,plan.length,cp⟩:MfC)).np ((⟨ep,pp,ao,os.length,co,a3,(Gr.normG l9).length,c3,a4,s.length,c4,ax,xs.length,cx,ap,plan.length,cp⟩:MfC)).cp],.int .i64 0]) (by simp[results,Tryz.results113,go_sem,pmZ,z0,z1,z2,z3,z4,z5,z6]) rfl ?_;refine⟨s,HP4.o,HSO4.o,fun q=>⟨⟨ep,pp,ao,os.length,co,a3,(Gr.normG l9).length,c3,a4,s.length,c4,ax,xs.length,cx,ap,plan.length,cp⟩,rfl,?_,?_⟩,fun q=>absurd ⟨HRB.o,(show pm.epoch<ep by rw[HPE.o];exact Int.not_le.1 (of_decide_eq_false HD.o)),eqNds_iff.1 HQ.o⟩ q⟩
 ·refine(fun W' (hs:SameBut Z wx W')=>MfOwn.gr' (w':=W'.more R1 n1) (HMF.o W' hs) ⟨R1,n1,rfl⟩) _ ?_
  repeat (first|with_reducible exact SameBut.refl _ _|with_reducible apply SameBut.setr)
 ·repeat (first|with_reducible exact HGX.o|with_reducible apply Grew.more|with_reducible apply Grew.alloc|refine Grew.set ?_ HNE.o.2.1 _)
structure Mk20 (w0 W:World) (P Z M tt bt nt:Nat) (v11:Value) (ep pp pe:Int) (pc:MfC) (os:List Int) (xs:List Gr.Ln) (plan:List Gr.Stp) (m2:List Tab.En) (l9:List Gr.Nd) (ao:Option Addr) (co:Nat) (ax:Option Addr) (cx:Nat) (vp:Value) (lcP:List StC):Prop where
 g:Grew w0 W
 pb:W.heap[P]? = some (.cells #[.int .i64 pe,.int .i64 pc.plans,.slice pc.ao pc.no pc.co,.slice pc.ag pc.ng pc.cg,.slice pc.ae pc.ne pc.ce,.slice pc.ax pc.nx pc.cx,.slice pc.ap pc.np pc.cp] 47)
 zb:W.heap[Z]? = some (.cells #[.int .i64 0,.int .i64 0,.slice none 0 0,.slice none 0 0,.slice none 0 0,.slice none 0 0,.slice none 0 0] 47)
 mb:W.heap[M]? = some (.cells #[.int .i64 ep,.int .i64 pp,.slice ao os.length co,.slice none 0 0,.slice none 0 0,.slice ax xs.length cx,vp] 47)
 pz:P≠Z
 pm:P≠M
 zm:Z≠M
 z0:w0.heap.size≤Z
 m0:w0.heap.size≤M
 os:OwnAt w0.heap.size 3 1 encN W (.slice ao os.length co) os
 xs:OwnAt w0.heap.size 122 5 encLn W (.slice ax xs.length cx) xs
 po:StepsOwn w0.heap.size W vp lcP
 pi:StepsIn w0.heap.size W lcP plan
 tab:TableAt W tt bt nt m2
 nd:NodesV w0.heap.size l9 v11 W
theorem Mk20.grew{w0 W W':World}{P Z M tt bt nt:Nat}{v11:Value}{ep pp pe:Int}{pc:MfC}{os:List Int}{xs:List Gr.Ln}{plan:List Gr.Stp}{m2:List Tab.En}{l9:List Gr.Nd}{ao:Option Addr}{co:Nat}{ax:Option Addr}{cx:Nat}{vp:Value}{lcP:List StC}(h:Mk20 w0 W P Z M tt bt nt v11 ep pp pe pc os xs plan m2 l9 ao co ax cx vp lcP)(q:Grew W W'): Mk20 w0 W' P Z M tt bt nt v11 ep pp pe pc os xs plan m2 l9 ao co ax cx vp lcP :=
 ⟨h.g.trans q,grew_heap q h.pb,grew_heap q h.zb,grew_heap q h.mb,h.pz,h.pm,h.zm,h.z0,h.m0,h.os.grew q,h.xs.grew q,OwnAt.grew h.po q,h.pi.grew q,h.tab.grew q,NodesV.st _ _ _ _ _ h.nd q⟩
def ButSM(W W':World): Prop:=∀(b:Nat) (cs:Array Value) (t:TypeId),W.heap[b]? = some (.cells cs t)→t≠69→t≠47→W'.heap[b]? = some (.cells cs t)
theorem OwnAt.butSM{α:Type}{base:Nat}{e:TypeId}{k:Nat}{enc:α→List Value}{w w':World}{v:Value}{l:List α}(h:OwnAt base e k enc w v l)(hb:ButSM w w')(he:e≠69)(he2:e≠47): OwnAt base e k enc w' v l :=
 OwnAt.same h fun b hv=>by
  obtain⟨-,cs,hc⟩:=OwnAt.block h hv;rw[hb b cs _ hc he he2,hc]
theorem OwnsNd.butSM{base:Nat}{w w':World}{c:NdC}{n:Gr.Nd}(h:OwnsNd base w c n)(hb:ButSM w w'): OwnsNd base w' c n:=⟨OwnAt.butSM h.1 hb (by decide) (by decide),OwnAt.butSM h.2 hb (by decide) (by decide)⟩
theorem NodesV.butSM{base:Nat}{g:List Gr.Nd}{v:Value}{w w':World}(h:NodesV base g v w)(hb:ButSM w w'): NodesV base g v w':=by
 obtain⟨a,c,lc,h1,h2,h3⟩:=h;refine⟨a,c,lc,h1,OwnAt.butSM h2 hb (by decide) (by decide),Rel.mono (fun c n q=>?_) h3⟩;have o:=q.2.butSM hb;exact⟨o.is q.1,o⟩
theorem StepsIn.butSM{base:Nat}{w w':World}{lc:List StC}{l:List Gr.Stp}(h:StepsIn base w lc l)(hb:ButSM w w'): StepsIn base w' lc l:=h.map fun _ _ o=>o.butSM hb
theorem Mk20.addP{w0 W W':World}{P Z M tt bt nt:Nat}{v11:Value}{ep pp pe:Int}{pc:MfC}{os:List Int}{xs:List Gr.Ln}{plan:List Gr.Stp}{m2:List Tab.En}{l9:List Gr.Nd}{ao:Option Addr}{co:Nat}{ax:Option Addr}{cx:Nat}{vp v':Value}{lcP:List StC}{d:StC}{z:Gr.Stp}(h:Mk20 w0 W P Z M tt bt nt v11 ep pp pe pc os xs plan m2 l9 ao co ax cx vp lcP)(hA:Appended w0 69 15 encSt W vp (lcP++[d]) v' W')(hd:StepIs W d z)(ho:OwnsNd w0.heap.size W d.c z.nd): Mk20 w0 (W'.setCell ⟨M,6,none⟩ v') P Z M tt bt nt v11 ep pp pe pc os xs (plan++[z]) m2 l9 ao co ax cx v' (lcP++[d]):=by
 obtain⟨a1,a2,a3,a4,a5⟩:=hA;have hM:W'.heap[M]? = _:=(a4 M (heap_lt h.mb) (OwnAt.other h.po h.mb (by decide))).trans h.mb
 have hB:ButSM W (W'.setCell ⟨M,6,none⟩ v'):=fun b cs t hc h1 h2=>by
  have e1:M≠b:=fun e=>by
   subst e;rw[h.mb] at hc;cases hc;exact h2 rfl
  rw[set_other e1,a4 b (heap_lt hc) (OwnAt.other h.po hc h1)];exact hc
 have hk:StepsIn w0.heap.size (W'.setCell ⟨M,6,none⟩ v') (lcP++[d]) (plan++[z]):=by
  have o5:=ho.butSM hB;exact Rel.snoc (h.pi.butSM hB) ⟨hd.of o5,o5⟩
 have hbt:(W'.setCell ⟨M,6,none⟩ v').heap[bt]? = W.heap[bt]? :=by
  have e1:M≠bt:=fun e=>TabAt.nocells h.tab.2 _ _ _ (e▸h.mb)
  rw[set_other e1,a4 bt h.tab.2.lt fun e=>?_];obtain⟨-,cs,hc⟩:=OwnAt.block h.po e;exact TabAt.nocells h.tab.2 _ _ _ hc
 refine⟨a1.set h.m0 _,?_,?_,by rw[set_self hM];rfl,h.pz,h.pm,h.zm,h.z0,h.m0,OwnAt.butSM h.os hB (by decide) (by decide),OwnAt.butSM h.xs hB (by decide) (by decide),OwnAt.same a2 fun b hb=>?_,hk,⟨hB tt _ _ h.tab.1 (by decide) (by decide),h.tab.2.same hbt⟩,h.nd.butSM hB⟩
 ·rw[set_other (fun e=>h.pm e.symm),a4 P (heap_lt h.pb) (OwnAt.other h.po h.pb (by decide))];exact h.pb
 ·rw[set_other (fun e=>h.zm e.symm),a4 Z (heap_lt h.zb) (OwnAt.other h.po h.zb (by decide))];exact h.zb
 ·exact set_other fun e=>OwnAt.other a2 hM (by decide) (e▸hb)
theorem Mk20.pre{w0 W:World}{x P Z M tt bt nt:Nat}{a:Act}{gv v11:Value}{ep pp pe:Int}{pc:MfC}{os:List Int}{xs:List Gr.Ln}{plan:List Gr.Stp}{m2:List Tab.En}{l9:List Gr.Nd}{ao:Option Addr}{co:Nat}{ax:Option Addr}{cx:Nat}{ap:Option Addr}{cp:Nat}{lcP:List StC}(h:Mk20 w0 W P Z M tt bt nt v11 ep pp pe pc os xs plan m2 l9 ao co ax cx (.slice ap plan.length cp) lcP)(fr:a=frame12 fun i=>a.tmps.getD i undef)
  (t0:a.tmps.getD 0 undef = .pointer (some ⟨x,0,none⟩)) (t4:a.tmps.getD 4 undef = .pointer (some ⟨P,0,none⟩)) (t6:a.tmps.getD 6 undef = .pointer (some ⟨Z,0,none⟩)) (t8:a.tmps.getD 8 undef = .pointer (some ⟨M,0,none⟩)) (t9:a.tmps.getD 9 undef = .pointer (some ⟨tt,0,none⟩)) (t11:a.tmps.getD 11 undef=v11)
  (xc:w0.cell? ⟨x,0,none⟩=some gv) (xl:x<w0.heap.size):Pre20 w0 W x P Z M tt bt nt a gv v11 ep pp pe pc os xs plan m2 l9 ao co ax cx ap cp lcP :=
 ⟨fr,t0,t4,t6,t8,t9,t11,h.g,h.pb,h.zb,h.mb,h.pz,h.pm,h.zm,h.z0,h.m0,xc,xl,h.os,h.xs,h.po,h.pi,h.tab,h.nd.at'⟩
theorem Mk20.start{w w5:World}{P Z M tt bt nt:Nat}{v11:Value}{ep pp q pe:Int}{pc:MfC}{os:List Int}{xs:List Gr.Ln}{m2:List Tab.En}{l9:List Gr.Nd}{ao:Option Addr}{co:Nat}{ax:Option Addr}{cx:Nat}(hg:Grew w w5)
  (hp:w5.heap[P]? = some (.cells #[.int .i64 pe,.int .i64 pc.plans,.slice pc.ao pc.no pc.co,.slice pc.ag pc.ng pc.cg,.slice pc.ae pc.ne pc.ce,.slice pc.ax pc.nx pc.cx,.slice pc.ap pc.np pc.cp] 47))
  (hz:w5.heap[Z]? = some (.cells #[.int .i64 0,.int .i64 0,.slice none 0 0,.slice none 0 0,.slice none 0 0,.slice none 0 0,.slice none 0 0] 47)) (hm:w5.heap[M]? = some (.cells #[.int .i64 ep,.int .i64 pp,.slice ao os.length co,.slice none 0 0,.slice none 0 0,.slice ax xs.length cx,.slice none 0 0] 47)) (pz:P≠Z) (pm:P≠M) (zm:Z≠M) (z0:w.heap.size≤Z) (m0:w.heap.size≤M)
  (ho:OwnAt w.heap.size 3 1 encN w5 (.slice ao os.length co) os) (hx:OwnAt w.heap.size 122 5 encLn w5 (.slice ax xs.length cx) xs) (hT:TableAt w5 tt bt nt m2) (hnd:NodesV w.heap.size l9 v11 w5) :
  Mk20 w (w5.setCell ⟨M,1,none⟩ (.int .i64 q)) P Z M tt bt nt v11 ep q pe pc os xs [] m2 l9 ao co ax cx (.slice none 0 0) []:=by
 have hB:ButM w5 (w5.setCell ⟨M,1,none⟩ (.int .i64 q)):=fun b cs t hc ht=>by
  rw[set_other (fun e=>ht (by subst e;rw[hm] at hc;cases hc;rfl))];exact hc
 refine⟨hg.set m0 _,(set_other (fun e=>pm e.symm)).trans hp,(set_other (fun e=>zm e.symm)).trans hz,by rw[set_self hm];rfl,pz,pm,zm,z0,m0,OwnAt.butM ho hB (by decide),OwnAt.butM hx hB (by decide),OwnAt.nil _,trivial,⟨hB tt _ _ hT.1 (by decide),hT.2.same (set_other fun e=>TabAt.nocells hT.2 _ _ _ (e▸hm))⟩,hnd.butM hB⟩
theorem remL_len(m:List Tab.En): ∀p:List Gr.Stp,(remL m p).length≤m.length:=by
 intro p;unfold remL
 induction p generalizing m with
 | nil=>exact Nat.le_refl _
 |cons s p ih =>
  refine Nat.le_trans (ih (remS m s)) ?_;unfold remS;split
  ·exact List.length_filter_le _ _
  ·exact Nat.le_refl _
theorem cleanS_len(s:Gr.Stp): (Gr.cleanS s).nd.frm.length≤s.nd.frm.length∧(Gr.cleanS s).nd.prog.length≤s.nd.prog.length:=by
 unfold Gr.cleanS
 repeat' split
 all_goals constructor<;>simp
theorem Grew.le{w w':World}(g:Grew w w'): w.heap.size≤w'.heap.size:=g.below.size
theorem seven{W:World}{Z:Nat}{c0 c1 c2 c3 c4 c5 c6:Value}{t:TypeId}(h:W.heap[Z]? = some (.cells #[c0,c1,c2,c3,c4,c5,c6] t)):
  W.cell? ⟨Z,0,none⟩=some c0∧W.cell? ⟨Z,1,none⟩=some c1∧W.cell? ⟨Z,2,none⟩=some c2∧W.cell? ⟨Z,3,none⟩=some c3∧W.cell? ⟨Z,4,none⟩=some c4∧W.cell? ⟨Z,5,none⟩=some c5∧W.cell? ⟨Z,6,none⟩=some c6 ∧
  (∀o,W.frozen? ⟨Z,o,none⟩=false)∧Pre Z W :=
 ⟨(cell_of h).trans rfl,(cell_of h).trans rfl,(cell_of h).trans rfl,(cell_of h).trans rfl,(cell_of h).trans rfl,(cell_of h).trans rfl,(cell_of h).trans rfl,fun _=>frozen_of h,Pre.mk (heap_lt h)⟩
end Go.Proofs.YtipgfjihdglocaaGreat
