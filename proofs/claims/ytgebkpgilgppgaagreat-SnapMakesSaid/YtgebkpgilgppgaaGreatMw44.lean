import Derived.Test.YtgebkpgilgppgaaGreatMw40
import Derived.Test.YtgebkpgilgppgaaGreatMw39
import Derived.Test.YtgebkpgilgppgaaGreatMw42
import Derived.Test.YtgebkpgilgppgaaGreatMw27
import Derived.Test.YtgebkpgilgppgaaGreatMw34
import Derived.Test.YtgebkpgilgppgaaGreatMw38
import Derived.Test.YtgebkpgilgppgaaGreatMw41
import Derived.Test.YtgebkpgilgppgaaGreatMw0
import Derived.Deep.QuietTactic
import Derived.BigQuiet
import Derived.Deep.LoopGhost
import Derived.Deep.RegionHeld3
import Derived.Deep.CutBlock
import Derived.Test.YtgebkpgilgppgaaGreatMw23
import Derived.Test.YtgebkpgilgppgaaGreatMw11
import Derived.Test.YtgebkpgilgppgaaGreatMw21
set_option linter.unusedSimpArgs false
set_option linter.unusedVariables false
set_option maxRecDepth 100000
set_option maxHeartbeats 64000000
namespace Go.Proofs.YtgebkpgilgppgaaGreat
open Go.RowKit Ga
def Ew(w:World)(ep pp:Int)(pm:Gr.Mf)(g:List Gr.Nd)(os:List Int)(xs:List Gr.Ln)(es:List Tab.En)(r:Int×Nat×List Gr.Nd)(p:List Gr.Stp)(e:Ending)(w':World): Prop :=
 (CG es=false→e = .returned Zk∧AA w w') ∧
 (CG es=true→r.1≠0→e = .returned (.tuple #[.agg #[.int .i64 0,.int .i64 0,.slice none 0 0,.slice none 0 0,.slice none 0 0,.slice none 0 0,.slice none 0 0],.int .i64 r.1])∧AA w w') ∧
 (CG es=true→r.1=0→∃l9,l9.Perm r.2.2∧XG w ep pp pm g os xs (Gc (Tab.newT es) p) l9 (p.map Gr.cleanS) e w')
theorem VM{w0 W:World}{t b n k:Nat}{l9:List Gr.Nd}{m:List Tab.En}{p:List Gr.Stp}{e:Ending}{w':World}(h:Lh ((0,k,l9):Int×Nat×List Gr.Nd) w0 W t b n m p e w'): AA w0 w'∧A7 b W w'∧Au w' t b n (Gc m p)∧∃v lc l',e = .returned (.tuple #[v,.int .i64 0,.int .i64 0])∧Aa W.heap.size w' v lc∧Ah W.heap.size w' lc l'∧l'.Perm l9∧(l'.Pairwise fun a b=>a.id≤b.id)∧Small l':=by
 obtain⟨g,hk,⟨h1,-⟩|⟨-,ht,v,lc,l',he,h2⟩⟩:=h
 ·exact absurd rfl h1
 ·exact⟨g,hk,ht,v,lc,l',he,h2⟩
theorem YX{r:Int×Nat×List Gr.Nd}{w0 W:World}{t b n:Nat}{m:List Tab.En}{p:List Gr.Stp}{e:Ending}{w':World}(hr:r.1≠0)(h:Lh r w0 W t b n m p e w'): e = .returned (.tuple #[.slice none 0 0,.int .i64 (r.2.1:Int),.int .i64 r.1])∧AA w0 w'∧A7 b W w':=by
 obtain⟨g,hk,⟨-,h2⟩|⟨h1,-⟩⟩:=h
 ·exact⟨h2,g,hk⟩
 ·exact absurd h1 hr
theorem YY(x b n:Nat)(g:List Gr.Nd)(ep:Int)(m:List (Ca×CV))(f:Ca→Fq)(c:Dy)(pm:Gr.Mf)(vp:Value)(p:List Gr.Stp)(w:World)(h:BN w x b n g ep m)(hn:n≤1000)(hml:m.length=(Af g).length)(hf:DF w g m f)(hc:Dl w c pm)(hpo:pm.graph.Pairwise fun a b=>a.id<b.id)(hps:Small pm.graph)(hpl:pm.graph.length≤19)
  (hu:BA w vp p) (hp9:p.length≤100) (hpm:∀s∈p,s.nd.frm.length≤100∧s.nd.prog.length≤1000) (hpn:0≤pm.plans∧pm.plans≤1000000) (r:Int×Nat×List Gr.Nd) (hr:FN g p=r) (pq:Int) (hpq:pm.plans+(if p=[] then 0 else 1)=pq) :
  Calls Tryz.prog 11 #[.pointer (some ⟨x,0,none⟩),.agg #[.int .i64 c.epoch,.int .i64 c.plans,.slice c.ao c.no c.co,.slice c.ag c.ng c.cg,.slice c.ae c.ne c.ce,.slice c.ax c.nx c.cx,.slice c.ap c.np c.cp],vp] w (Ew w ep pq pm g (Hw g f (Af g)) (Ll g f (Af g)) (Lm g f (Af g)) r p):=by
 have HH:=hY h;have HMI:=hY fun W (q:AA w W)=>F8 x b n g ep m W (h.grew q) hn
 rw[hml,Int.sub_self] at HMI;have HGA:=hY fun W (q:AA w W)=>Rh x b n g ep m f W (h.grew q) (hf.grew q)
 have HC:=hY hc;have hes:=A2i hf;have htl:=De g fun y hy=>(He h y hy).2
 have hl8:=h.len;obtain⟨v,hx,hv⟩:=h.cells;have hng:Gr.normG g=g:=(Gr.norm_unique (List.Perm.refl g) (h.so.imp fun q=>by omega) h.right.ids h.right.r7).symm;have HNO:=hY fun W (q:AA w W)=>Lj v g W (hv.grew q) h.small h.right
 rw[hng] at HNO;have HSA:=hY fun W (q:AA w W)=>TK _ _ pm.graph g W (hc.g.grew q) (hv.grew q) hps hpl hpo h.small (by have:=h.len;omega) h.so
 obtain⟨av,cv,rfl,-,-⟩:=hv.openC;have x0:=cell_of (o:=0) hx;simp at x0;have px:=Ad.mk (AB hx);obtain⟨pe,pp,ao,co,ag,cg,ae,ce,axx,cxx,ap,cp,rfl⟩:=hc.lit;have HPE:Hid (pm.epoch=pe):=hY hc.epoch;have HPP:Hid (pm.plans=pp):=hY hc.plans;generalize Hw g f (Af g)=os at *;generalize Ll g f (Af g)=xs at *;generalize Lm g f (Af g)=es at *;have hgs:=h.small;have HUP:=hY hu;obtain⟨apl,cpl,rfl,-,-⟩:=hu.openC;have HPQ:=hY hpq;have HRR:=hY hr;have HPM:=hY hpm;have HV9:=hY fun W (q:AA w W)=>hv.grew q
 have hr9:=h.right;have hx0:=x0;have hxl:=AB hx;have HR9:=hY hr9;have HX0:=hY hx0;have HXL:=hY hxl;clear h hn hml hf hc hx hv hpo hps hpl hng hu hr hpm hr9 hx0 hxl hpq;show Calls Tryz.prog _ #[.pointer (some ⟨x,0,none⟩),.agg #[.int .i64 pe,.int .i64 pp,.slice ao pm.offs.length co,.slice ag pm.graph.length cg,.slice ae pm.ents.length ce,.slice axx pm.out.length cxx,.slice ap pm.plan.length cp],.slice apl p.length cpl] w _;go_enter Tryz.func11,Tryz.ntmps11
 go_wp2_with (first
  | (go_at_call 21;refine(HMI.o _ gw).mono ?_;rintro e w1 ⟨rfl,R1,n1,rfl⟩)
  | fail)
 refine(HGA.o _ gw).mono ?_;rintro e w2 ⟨ao2,co2,ax2,cx2,tv,code,rfl,hO,hX,hg2,hcase⟩;have HO:=hY hO;have HX:=hY hX;have hP2:w2.heap[w.heap.size]? = some (.cells #[.int .i64 pe,.int .i64 pp,.slice ao pm.offs.length co,.slice ag pm.graph.length cg,.slice ae pm.ents.length ce,.slice axx pm.out.length cxx,.slice ap pm.plan.length cp] 42):=AC hg2 (AC gw (AO w _ _ rfl));have hZ2:w2.heap[w.heap.size+1]? = some (.cells #[.int .i64 0,.int .i64 0,.slice none 0 0,.slice none 0 0,.slice none 0 0,.slice none 0 0,.slice none 0 0] 42):=AC hg2 (AC gw (AO _ _ _ (by simp[World.size_alloc])));have hsz:=hg2.below.size;simp only[World.more_size,World.size_alloc] at hsz;have HGW:Hid (AA w w2):=hY (AA.trans gw hg2);have HP2:=hY hP2;have HZ2:=hY hZ2;have hlow:w.heap.size+2≤(((w.alloc (.cells #[.int .i64 pe,.int .i64 pp,.slice ao pm.offs.length co,.slice ag pm.graph.length cg,.slice ae pm.ents.length ce,.slice axx pm.out.length cxx,.slice ap pm.plan.length cp] 42)).alloc (.cells #[.int .i64 0,.int .i64 0,.slice none 0 0,.slice none 0 0,.slice none 0 0,.slice none 0 0,.slice none 0 0] 42)).more R1 n1).heap.size:=by simp only[World.more_size,World.size_alloc];omega
 have HO2:=hY (OwnAt.low HO.o hlow);have HX2:=hY (OwnAt.low HX.o hlow);have hsz2:w.heap.size+2≤w2.heap.size:=by omega
 clear hO hX hg2 hsz hlow HO HX;have pc0:=cell_of (o:=0) hP2;have pc1:=cell_of (o:=1) hP2;have pc2:=cell_of (o:=2) hP2;have pc3:=cell_of (o:=3) hP2;have pc4:=cell_of (o:=4) hP2;have pc5:=cell_of (o:=5) hP2;have pc6:=cell_of (o:=6) hP2;have z0:=cell_of (o:=0) hZ2;have z1:=cell_of (o:=1) hZ2;have z2:=cell_of (o:=2) hZ2;have z3:=cell_of (o:=3) hZ2;have z4:=cell_of (o:=4) hZ2;have z5:=cell_of (o:=5) hZ2;have z6:=cell_of (o:=6) hZ2;simp at pc0 pc1 pc2 pc3 pc4 pc5 pc6 z0 z1 z2 z3 z4 z5 z6;have pp4:=Ad.mk (AB hP2);have pp6:=Ad.mk (AB hZ2);have f0:=AJ (o:=0) hZ2;have f1:=AJ (o:=1) hZ2;have f2:=AJ (o:=2) hZ2;have f3:=AJ (o:=3) hZ2;have f4:=AJ (o:=4) hZ2;have f5:=AJ (o:=5) hZ2;have f6:=AJ (o:=6) hZ2;have x02:=BD HGW.o x0;have px2:=Ad.ofCell x02;clear hP2 hZ2;rcases hcase with ⟨hok,rfl,tt,bt,rfl,hT,ht1,ht2⟩|⟨hok,rfl,rfl⟩
 case inr =>
  have HOK:=hY hok;clear hok
  go_wp2_with fail
  refine bodyPost_ret (v:=Zk) (by simp[results,Tryz.results11,go_sem,Zk,pp6,z0,z1,z2,z3,z4,z5,z6]) rfl ?_;refine⟨fun _=>⟨rfl,?_⟩,fun q=>absurd (HOK.o.symm.trans q) (by decide),fun q=>absurd (HOK.o.symm.trans q) (by decide)⟩
  repeat (first|with_reducible exact HGW.o|with_reducible apply AA.more|with_reducible apply AA.alloc|refine AA.set ?_ (by omega) _)
 have HOK:=hY hok;have HT:=hY hT;clear hok hT;have HML:Hid ((Tab.newT es).length≤100000):=hY (Nat.le_trans (A2h es) (by omega));by_cases hp0:p=[]
 case pos =>
  have hrr:=HRR.o;subst hp0;unfold FN at hrr;rw[if_pos rfl] at hrr;subst hrr;have hpq:=HPQ.o;rw[if_pos rfl,HPP.o,Int.add_zero] at hpq;subst hpq
  go_upto_if 42 with fail
  iterate 4 go_step
  refine Code.wp_mono (Jb fun e w' h=>⟨fun q=>absurd (q.symm.trans HOK.o) (by decide),fun _ q=>absurd rfl q,fun _ _=>⟨g,List.Perm.refl _,h⟩⟩) (Px w _ x w.heap.size (w.heap.size+1) w2.heap.size tt bt es.length _ (.slice av g.length cv) (.slice av g.length cv) ep pp pe ⟨pe,pp,ao,pm.offs.length,co,ag,pm.graph.length,cg,ae,pm.ents.length,ce,axx,pm.out.length,cxx,ap,pm.plan.length,cp⟩ pm g os xs [] (Tab.newT es) g ao2 co2 ax2 cx2 none 0 [] ?_ HPE.o HR9.o hgs (fun s hs=>by cases hs) HML.o HSA.o);exact⟨rfl,rfl,rfl,rfl,rfl,rfl,rfl,HGW.o.trans gw,AC gw HP2.o,AC gw HZ2.o,AC gw (AO w2 (.cells #[.int .i64 ep,.int .i64 pp,.slice ao2 os.length co2,.slice none 0 0,.slice none 0 0,.slice ax2 xs.length cx2,.slice none 0 0] 42) _ rfl),by omega,by omega,by omega,by omega,by omega,HX0.o,HXL.o,OwnAt.grew (OwnAt.low HO2.o (by omega)) gw,OwnAt.grew (OwnAt.low HX2.o (by omega)) gw,OwnAt.nil _,trivial,HT.o.grew gw,HV9.o _ (HGW.o.trans gw)⟩
 have hrr:=HRR.o;unfold FN at hrr;rw[if_neg hp0] at hrr;have hp1:1≤p.length:=by have:=List.length_pos_iff.2 hp0;omega
 have HRR:=hY hrr;have HP0:=hY hp0;have hpq:=HPQ.o;rw[if_neg hp0,HPP.o] at hpq;subst hpq;clear hrr hp0;have hbt:w.heap.size≤bt:=Nat.le_trans (by simp only[World.more_size,World.size_alloc];omega) ht2;have HRA:=hY fun W2 (q:AA w2 W2)=>OC w W2 tt bt es.length _ (HT.o.grew q) (GI.new HOK.o) (HGW.o.trans q) hbt _ _ g p (HV9.o W2 (HGW.o.trans q)) hgs HUP.o fun s hs=>⟨Nat.le_trans (HPM.o s hs).1 (by decide),(HPM.o s hs).2⟩
 rw[HRR.o] at HRA;have HKB:Hid (∀(W2 W5:World),AA w2 W2→A7 bt W2 W5→∀(Z:Nat) (cs:Array Value) (t:TypeId),w2.heap[Z]? = some (.cells cs t)→W5.heap[Z]? = some (.cells cs t)):=hY (fun W2 W5 q hk Z cs t hc=>A7.cells hk (AC q hc) (TabAt.nocells (HT.o.2.grew q)));obtain⟨r1,rk,l9⟩:=r;by_cases hr0:r1=0
 case neg =>
  have HRA2:=hY fun W2 (q:AA w2 W2)=>(HRA.o W2 q).mono fun e w' h=>YX (r:=(r1,rk,l9)) hr0 h
  simp only at HRA2;have hb2:(r1 != 0)=true:=by rw[bne_iff_ne];exact hr0
  have HR0:=hY hr0;clear HRA hr0
  go_wp2_with (go_at_call 39;((with_reducible refine Calls.mono (HRA2.o _ ?_) ?_));(focus(exact gw));rintro e5 w5 ⟨rfl,hg5,hk5⟩;(obtain⟨y0,y1,y2,y3,y4,y5,y6,yf,yp⟩:=seven (HKB.o _ _ gw hk5 _ _ _ HZ2.o));(have g0:=yf 0);(have g1:=yf 1);(have g2:=yf 2);(have g3:=yf 3);(have g4:=yf 4);(have g5:=yf 5);(have g6:=yf 6);(have HG5:=hY hg5);clear hg5 hk5 yf)
  refine bodyPost_ret (v:=.tuple #[.agg #[.int .i64 0,.int .i64 0,.slice none 0 0,.slice none 0 0,.slice none 0 0,.slice none 0 0,.slice none 0 0],.int .i64 r1]) (by simp[results,Tryz.results11,go_sem,yp,y0,y1,y2,y3,y4,y5,y6]) rfl ?_;refine⟨fun q=>absurd (q.symm.trans HOK.o) (by decide),fun _ _=>⟨rfl,?_⟩,fun _ q=>absurd q HR0.o⟩
  repeat (first|with_reducible exact HG5.o|with_reducible apply AA.more|with_reducible apply AA.alloc|refine AA.set ?_ (by omega) _)
 subst hr0;have HRA2:=hY fun W2 (q:AA w2 W2)=>(HRA.o W2 q).mono fun e w' h=>VM h
 clear HRA;have hppb:0≤pp∧pp≤1000000:=by rw[←HPP.o];exact hpn
 go_wp2_with (go_at_call 39;((with_reducible refine Calls.mono (HRA2.o _ ?_) ?_));(focus(exact gw));rintro e5 w5 ⟨hg5,hk5,hT5,v5,lc5,l5,rfl,ho5,hn5,hp5,hs5,hsm5⟩;obtain⟨a5,cp5,rfl⟩:=(OwnAt.rows ho5 AZ).len;(have hM5:w5.heap[w2.heap.size]? = some (.cells #[.int .i64 ep,.int .i64 pp,.slice ao2 os.length co2,.slice none 0 0,.slice none 0 0,.slice ax2 xs.length cx2,.slice none 0 0] 42):=A7.cells hk5 (AC gw (AO w2 _ _ rfl)) (TabAt.nocells (HT.o.2.grew gw)));(have m1:w5.cell? ⟨w2.heap.size,1,none⟩=some (.int .i64 pp):=(cell_of hM5).trans rfl);(have f1':=AJ (o:=1) hM5);(have pM5:=Ad.mk (AB hM5));(have hP5:=HKB.o _ _ gw hk5 _ _ _ HP2.o);(have hZ5:=HKB.o _ _ gw hk5 _ _ _ HZ2.o);(have hO5:=OwnAt.keepC ((OwnAt.low HO2.o (base':=w.heap.size) (by omega)).grew gw) hk5 (TabAt.nocells (HT.o.2.grew gw)));(have hX5:=OwnAt.keepC ((OwnAt.low HX2.o (base':=w.heap.size) (by omega)).grew gw) hk5 (TabAt.nocells (HT.o.2.grew gw)));(have ho5':=OwnAt.low ho5 (base':=w.heap.size) (by simp[World.size_alloc];omega));(have hn5':=Ah.low (base':=w.heap.size) hn5 (by simp[World.size_alloc];omega));(have HST:=hY (Jr.start (q:=pp+1) (pc:=⟨pe,pp,ao,pm.offs.length,co,ag,pm.graph.length,cg,ae,pm.ents.length,ce,axx,pm.out.length,cxx,ap,pm.plan.length,cp⟩) hg5 hP5 hZ5 hM5 (by omega) (by omega) (by omega) (by omega) (by omega) hO5 hX5 hT5 ⟨a5,cp5,lc5,by rw[BL.len hn5],ho5',hn5'⟩));(have HP5:=hY hp5);(have HSM5:=hY hsm5);clear hg5 hk5 hT5 ho5 hn5 hp5 hs5 hsm5 hM5 hP5 hZ5 hO5 hX5 ho5' hn5')
 go_loopg [61] p.length (fun gg s61 wr=>∃(k:Nat) (vp':Value) (lcP:List Bw),k≤p.length∧p.length-k≤gg∧s61 = .int .i64 (k:Int)∧Hid (Jr w wr w.heap.size (w.heap.size+1) w2.heap.size tt bt es.length (.slice a5 lc5.length cp5) ep (pp+1) pe ⟨pe,pp,ao,pm.offs.length,co,ag,pm.graph.length,cg,ae,pm.ents.length,ce,axx,pm.out.length,cxx,ap,pm.plan.length,cp⟩ os xs ((p.take k).map Gr.cleanS) (Gc (Tab.newT es) p) l5 ao2 co2 ax2 cx2 vp' lcP))
 case atStart=>exact⟨0,_,_,by omega,by omega,rfl,hY (HST.o.grew gw)⟩
 case round =>
  obtain⟨k,vp',lcP,hk,hgg,rfl,HS⟩:=hrel;rename World=>wa;obtain⟨a7,c7s,rfl⟩:=(OwnAt.rows HS.o.po Cb).len;by_cases hlt:k<p.length
  ·obtain⟨a',cap',e,-,hx⟩:=(HUP.o.grew HS.o.g).openC;cases e;obtain⟨bq,off,c,rfl,hbq,hn,c0,c1,c2,c3,c4,c5,c6,c7,c8,c9,c10,c11,c12,c13,c14⟩:=hx k hlt;have HCL:=hY fun W2 (g:AA wa W2)=>D5 c p[k] W2 (hn.grew g) ⟨Nat.le_trans (HPM.o _ (List.getElem_mem hlt)).1 (by decide),(HPM.o _ (List.getElem_mem hlt)).2⟩
   have HTK:Hid ((p.take (k+1)).map Gr.cleanS=(p.take k).map Gr.cleanS++[Gr.cleanS p[k]]):=hY (by rw[List.take_succ_eq_append_getElem hlt,List.map_append];rfl);have hll:=BL.len HS.o.pi;rw[List.length_map,List.length_take] at hll;have hlc:lcP.length≤100:=by omega
   have m6:wa.cell? ⟨w2.heap.size,6,none⟩=some (.slice a7 lcP.length c7s):=(cell_of HS.o.mb).trans rfl;have pm6:=Ad.mk (AB HS.o.mb);clear hx hn hll;generalize p[k]=st at *;obtain⟨kd,⟨id,kind,af,nf,cf,apr,np,cpr,par,r0,q1,q2,q3,q4,q5,q6,q7⟩,rs⟩:=c;simp only at c0 c1 c2 c3 c4 c5 c6 c7 c8 c9 c10 c11 c12 c13 c14 HCL
   go_upto_region 18 with fail
   refine wp_region_noPanic ?_
   go_region_law (first
    | (go_simp;go_at_call 40;((with_reducible refine Calls.mono (HCL.o _ ?_) ?_));(focus(exact gw));rintro e6 w6 ⟨d6,rfl,hs6,ho6,R6,n6,rfl⟩;(try simp only[World.more_drew] at hs6 ho6);(have HS6:=hY hs6);(have HO6:=hY ho6);clear hs6 ho6)
    | (refine JL (w0:=w) (v:=.slice a7 lcP.length c7s) rfl (.tmp 66) (.tmp 69) 26 _ _ _ _ [d6] rfl Tryz.underlying26 Km rfl (by decide) Cb JO rfl (OwnAt.grew HS.o.po gw) (HS.o.g.trans gw) rfl (XL _ _ _ _ rfl (by simp[go_sem])) (by simp;omega) (by decide) (by simp) ?_;intro v8 W8 hA;(obtain⟨a8,c8,hv8⟩:=(OwnAt.rows hA.2.1 Cb).len);(obtain⟨n8,hn8⟩:∃n8,(lcP++([d6]:List Bw)).length=n8:=⟨_,rfl⟩);(rw[hn8] at hv8);(subst hv8);(clear hn8);(have hM8:=Cn (OwnAt.grew HS.o.po gw) (AC gw HS.o.mb) (by decide) hA);(obtain⟨u8,hu8⟩:∃u,W8.cell? ⟨w2.heap.size,6,none⟩=some u:=⟨_,(cell_of hM8).trans rfl⟩);(have f8:=AJ (o:=6) hM8);(have p8:=Ad.mk (AB hM8));(have HA:=hY hA);clear hA hM8))
   all_goals
    refine NoPanic.normal ?_;go_wp2
    go_roundg (p.length-(k+1))
    case measure=>omega
    case rel =>
     obtain⟨Wp,hA9,hW9⟩:∃Wp,Ap w 66 15 CS Wp (.slice a7 lcP.length c7s) (lcP++[d6]) (.slice a8 n8 c8) W8∧AA wa Wp∧Ai Wp d6 (Gr.cleanS st)∧Ab w.heap.size Wp d6.c (Gr.cleanS st).nd:=by
      refine⟨_,HA.o,gw,HS6.o.grew gw,Ab.low (Ab.grew HO6.o gw) ?_⟩;exact AA.le (HS.o.g.trans gw)
     have hres:=Jr.addP (HS.o.grew hW9.1) hA9 hW9.2.1 hW9.2.2;rw[←HTK.o] at hres;exact⟨k+1,_,lcP++[d6],by omega,by omega,by go_num,hY hres⟩
  ·obtain rfl:k=p.length:=by omega
   have hs:=HS.o;rw[List.take_length] at hs;have hl:lcP.length=(p.map Gr.cleanS).length:=BL.len hs.pi;rw[hl] at hs;have HS9:=hY hs
   have hr5:Gr.RightR l5:=by
    have h0:=QL (l:=g) (p:=p) (by rw[HRR.o]);rw[HRR.o] at h0;exact(Bj h0).perm HP5.o.symm
   have HR5:=hY hr5;clear hs hl hr5
   go_upto_if 62 with fail
   iterate 4 go_step
   refine Code.wp_mono (Jb fun e w' h=>⟨fun q=>absurd (q.symm.trans HOK.o) (by decide),fun _ q=>absurd rfl q,fun _ _=>⟨l5,HP5.o,h⟩⟩) (Px w _ x w.heap.size (w.heap.size+1) w2.heap.size tt bt es.length _ (.slice av g.length cv) (.slice a5 lc5.length cp5) ep (pp+1) pe ⟨pe,pp,ao,pm.offs.length,co,ag,pm.graph.length,cg,ae,pm.ents.length,ce,axx,pm.out.length,cxx,ap,pm.plan.length,cp⟩ pm g os xs (p.map Gr.cleanS) (Gc (Tab.newT es) p) l5 ao2 co2 ax2 cx2 a7 c7s lcP ?_ HPE.o HR5.o HSM5.o (fun s hs=>?_) (Nat.le_trans (A0a _ _) HML.o) HSA.o)
   ·exact Jr.pre (Jr.grew HS9.o gw) rfl rfl rfl rfl rfl rfl rfl HX0.o HXL.o
   obtain⟨y,hy,rfl⟩:=List.mem_map.1 hs;exact⟨Nat.le_trans (NQ y).1 (HPM.o y hy).1,Nat.le_trans (NQ y).2 (HPM.o y hy).2⟩
def Ii(u:Nat→Value): Act:={ tmps:=#[u 0,u 1,u 2,u 3,u 4,u 5,u 6,u 7,u 8,u 9,u 10,u 11,u 12,u 13,u 14,u 15,u 16,u 17,u 18,u 19,u 20,u 21,u 22,u 23,u 24,u 25,u 26,u 27,u 28,u 29,u 30,u 31,u 32,u 33,u 34,u 35,u 36,u 37,u 38,u 39,u 40,u 41,u 42,u 43,u 44,u 45,u 46,u 47,u 48,u 49,u 50,u 51,u 52,u 53,u 54,u 55,u 56,u 57,u 58,u 59,u 60,u 61,u 62,u 63,u 64,u 65,u 66,u 67,u 68,u 69,u 70,u 71,u 72,u 73,u 74,u 75,u 76,u 77,u 78,u 79,u 80,u 81,u 82,u 83,u 84,u 85,u 86,u 87,u 88,u 89,u 90,u 91,u 92,u 93,u 94,u 95,u 96,u 97,u 98,u 99,u 100,u 101,u 102,u 103,u 104,u 105,u 106,u 107,u 108,u 109,u 110,u 111,u 112,u 113,u 114,u 115,u 116,u 117,u 118,u 119,u 120,u 121,u 122,u 123,u 124,u 125,u 126,u 127,u 128,u 129,u 130,u 131,u 132,u 133,u 134,u 135,u 136,u 137,u 138,u 139,u 140,u 141,u 142,u 143,u 144,u 145,u 146,u 147,u 148,u 149,u 150,u 151,u 152,u 153,u 154,u 155,u 156,u 157,u 158,u 159,u 160,u 161,u 162,u 163,u 164,u 165,u 166,u 167,u 168,u 169,u 170,u 171,u 172,u 173,u 174,u 175,u 176,u 177,u 178,u 179,u 180,u 181,u 182,u 183,u 184,u 185,u 186,u 187,u 188,u 189,u 190,u 191,u 192,u 193,u 194,u 195,u 196,u 197,u 198,u 199,u 200,u 201,u 202,u 203,u 204,u 205,u 206,u 207,u 208,u 209,u 210,u 211,u 212,u 213,u 214,u 215,u 216,u 217,u 218,u 219,u 220,u 221,u 222,u 223,u 224,u 225,u 226,u 227,u 228,u 229,u 230,u 231,u 232,u 233,u 234,u 235,u 236,u 237,u 238,u 239,u 240,u 241,u 242,u 243,u 244,u 245,u 246,u 247,u 248,u 249,u 250,u 251,u 252,u 253,u 254,u 255,u 256,u 257,u 258,u 259,u 260,u 261,u 262,u 263,u 264,u 265,u 266,u 267,u 268,u 269,u 270,u 271,u 272,u 273,u 274,u 275,u 276,u 277,u 278,u 279,u 280,u 281,u 282,u 283,u 284,u 285,u 286,u 287,u 288,u 289,u 290,u 291,u 292,u 293,u 294,u 295,u 296,u 297,u 298],defers:=[] }
def XJ(n:Nat): Code→Bool
 | .region k _ _=>k==n
 | .seq a _=>XJ n a
 | _=>false
def MR(n:Nat): Code→Option Code
 |.seq a b=>if XJ n a then some (.seq a b) else match MR n a with
  | some c=>some c
  | none=>MR n b
 | .loop c=>MR n c
 | .block _ c=>MR n c
 | .scope c=>MR n c
 |.cond _ a b=>match MR n a with
  | some c=>some c
  | none=>MR n b
 | _=>none
noncomputable def FO(n:Nat): Code:=(Tryz.f3.body.bind (MR n)).getD .skip
structure JZ (w:World) (av:Option Addr) (cv:Nat) (g:List Gr.Nd) (ce:Option Addr) (cE:Nat) (cl:Option Addr) (cL:Nat) (cp:Option Addr) (cP:Nat) (wh:Wh):Prop where
 hv:AV w (.slice av g.length cv) g
 cap:capOk (.slice av g.length cv)
 whi:UJ w ce cE cl cL cp cP wh
 r:Gr.RightR g
 s:Small g
 el:wh.ents.length≤60
 ll:wh.lines.length≤60
 pl:wh.plan.length≤20
 ps:∀s∈wh.plan,s.nd.frm.length≤100∧s.nd.prog.length≤1000
structure Ck (w W:World) (av:Option Addr) (cv:Nat) (g:List Gr.Nd) (ce:Option Addr) (cE:Nat) (cl:Option Addr) (cL:Nat) (cp:Option Addr) (cP:Nat) (wh:Wh) (x b P:Nat) (a5:Option Addr) (c5:Nat) (a6:Option Addr) (c6:Nat) (n:Nat) (m:List (Ca×CV)):Prop where
 gr:AA w W
 bw:w.heap.size≤b
 wb:W.heap[w.heap.size]? = some (.cells #[.slice ce wh.ents.length cE,.slice cl wh.lines.length cL,.int .i64 wh.o0,.int .i64 wh.o1,.int .i64 wh.o2,.slice cp wh.plan.length cP] 28)
 ga:BN W x b n (Gr.normG g) 9 m
 pb:W.heap[P]? = some (.cells #[.int .i64 0,.int .i64 0,.slice a5 (Be g).toNat c5,.slice a6 (Gr.normG g).length c6,.slice none 0 0,.slice none 0 0,.slice none 0 0] 42)
 fi:BO W (.slice a5 (Be g).toNat c5) (List.replicate (Be g).toNat 0)
 fn:AV W (.slice a6 (Gr.normG g).length c6) (Gr.normG g)
theorem Ck.grew{w W W2:World}{av:Option Addr}{cv:Nat}{g:List Gr.Nd}{ce:Option Addr}{cE:Nat}{cl:Option Addr}{cL:Nat}{cp:Option Addr}{cP:Nat}{wh:Wh}{x b P:Nat}{a5:Option Addr}{c5:Nat}{a6:Option Addr}{c6:Nat}{n:Nat}{m:List (Ca×CV)}(h:Ck w W av cv g ce cE cl cL cp cP wh x b P a5 c5 a6 c6 n m)(q:AA W W2): Ck w W2 av cv g ce cE cl cL cp cP wh x b P a5 c5 a6 c6 n m :=
 ⟨h.gr.trans q,h.bw,AC q h.wb,h.ga.grew q,AC q h.pb,AX.grew h.fi q,h.fn.grew q⟩
theorem Ck.keep{w W W2:World}{av:Option Addr}{cv:Nat}{g:List Gr.Nd}{ce:Option Addr}{cE:Nat}{cl:Option Addr}{cL:Nat}{cp:Option Addr}{cP:Nat}{wh:Wh}{x b P:Nat}{a5:Option Addr}{c5:Nat}{a6:Option Addr}{c6:Nat}{n n':Nat}{m m':List (Ca×CV)}(h:Ck w W av cv g ce cE cl cL cp cP wh x b P a5 c5 a6 c6 n m)(q:AA w W2)(hk:A7 b W W2)(hg:BN W2 x b n' (Gr.normG g) 9 m'): Ck w W2 av cv g ce cE cl cL cp cP wh x b P a5 c5 a6 c6 n' m' :=
 ⟨q,h.bw,hk.cells h.wb (Dc h.ga.map),hg,hk.cells h.pb (Dc h.ga.map),JN h.fi hk (Dc h.ga.map),J9 h.fn hk (Dc h.ga.map)⟩
theorem Ck.pm{w W:World}{av:Option Addr}{cv:Nat}{g:List Gr.Nd}{ce:Option Addr}{cE:Nat}{cl:Option Addr}{cL:Nat}{cp:Option Addr}{cP:Nat}{wh:Wh}{x b P:Nat}{a5:Option Addr}{c5:Nat}{a6:Option Addr}{c6:Nat}{n:Nat}{m:List (Ca×CV)}(h:Ck w W av cv g ce cE cl cL cp cP wh x b P a5 c5 a6 c6 n m): Dl W ⟨0,0,a5,(Be g).toNat,c5,a6,(Gr.normG g).length,c6,none,0,0,none,0,0,none,0,0⟩ (J7 g):=⟨rfl,rfl,h.fi,h.fn,AX.nil,AX.nil,BA.nil W⟩
theorem TM{α β:Type}{R:α→β→Prop}: ∀{xs:List α} {ys:List β},xs.length=ys.length→(∀(i:Nat) (a:α) (b:β),xs[i]? = some a→ys[i]? = some b→R a b)→BL R xs ys
 | [],[],_,_=>trivial
 | a::xs,b::ys,hl,h=>⟨h 0 a b rfl rfl,TM (by simpa using hl) fun i x y h1 h2=>h (i+1) x y (by simpa using h1) (by simpa using h2)⟩
 | [],_::_,hl,_=>by simp at hl
 | _::_,[],hl,_=>by simp at hl
theorem TN{w:World}{v:Value}{l:List Gr.Nd}(h:AV w v l): BC w w v l:=by
 obtain⟨lc,h1,h2,h3⟩:=h;exact⟨lc,h1,TM h2 h3⟩
structure Js (w:World) (x P:Nat) (av:Option Addr) (cv:Nat) (g:List Gr.Nd) (a:Act):Prop where
 fr:a=Ii fun i=>a.tmps.getD i undef
 t0:a.tmps.getD 0 undef = .slice av g.length cv
 t4:a.tmps.getD 4 undef = .pointer (some ⟨w.heap.size,0,none⟩)
 t7:a.tmps.getD 7 undef = .pointer (some ⟨x,0,none⟩)
 t9:a.tmps.getD 9 undef = .pointer (some ⟨P,0,none⟩)
structure Ow (w:World) (a:Act) (W:World):Prop where
 t6:a.tmps.getD 6 undef = .bool true
 d:a.defers=[]
 g:AA w W
structure DZ (base:Nat) (W:World) (v:Value) (lc:List CV) (L:List (Ca×Fq)):Prop where
 o:OwnAt base 33 6 Ej W v lc
 r:BL (I5 W) lc L
theorem DZ.grew{base:Nat}{W W':World}{v:Value}{lc:List CV}{L:List (Ca×Fq)}(h:DZ base W v lc L)(g:AA W W'): DZ base W' v lc L:=⟨OwnAt.grew h.o g,BL.mono (fun _ _ q=>q.grew g) h.r⟩
theorem DZ.keep{base b:Nat}{W W':World}{v:Value}{lc:List CV}{L:List (Ca×Fq)}(h:DZ base W v lc L)(hk:A7 b W W')(hb:∀c t f,W.heap[b]? ≠ some (.cells c t f)): DZ base W' v lc L :=
 ⟨OwnAt.keepC h.o hk hb,BL.mono (fun c y q=>⟨q.1,q.2.1,q.2.2.1,q.2.2.2.ackB fun b2 cs t hc _=>hk.2 b2 (AB hc) fun e=>hb _ _ _ (e▸hc)⟩) h.r⟩
theorem FZ.own{w W:World}{v:Value}{lc:List CV}{L:List (Ca×Fq)}(h:FZ w W v lc L): DZ w.heap.size W v lc L:=⟨h.o,h.r⟩
theorem E8{base:Nat}{W:World}{a:Option Addr}{c n:Nat}{lc:List CV}(h:OwnAt base 33 6 Ej W (.slice a n c) lc){i:Nat}(hi:i<lc.length): ∃q,a=some ⟨q,0,none⟩∧n=lc.length∧Ad q W ∧
  W.cell? ⟨q,i*6,none⟩=some (.int .i64 lc[i].node)∧W.cell? ⟨q,i*6+1,none⟩=some (.int .i64 lc[i].ix)∧W.cell? ⟨q,i*6+2,none⟩=some (.int .i64 lc[i].ep)∧W.cell? ⟨q,i*6+3,none⟩=some (.slice lc[i].ae lc[i].ne lc[i].ce)∧W.cell? ⟨q,i*6+4,none⟩=some (.slice lc[i].ax lc[i].nx lc[i].cx)∧W.cell? ⟨q,i*6+5,none⟩=some (.int .i64 lc[i].off):=by
 rcases h.form with ⟨-,h2⟩|⟨q,cap,h1,-⟩
 ·subst h2;exact absurd hi (by simp)
 ·cases h1;obtain⟨a',cap',e,-,hx⟩:=OwnAt.rows h EW;cases e;obtain⟨q',off,e,hc⟩:=hx (by intro e;subst e;simp at hi);cases e;have hj:=fun j u=>hc i lc[i] (List.getElem?_eq_getElem hi) j u
  have h0:=hj 0 _ rfl;have h1:=hj 1 _ rfl;have h2:=hj 2 _ rfl;have h3:=hj 3 _ rfl;have h4:=hj 4 _ rfl;have h5:=hj 5 _ rfl;simp only[Nat.zero_add,Nat.add_zero] at h0 h1 h2 h3 h4 h5;exact⟨_,rfl,rfl,Ad.ofCell h0,h0,h1,h2,h3,h4,h5⟩
theorem TP{base q n cap j:Nat}{W:World}{lc:List CV}(h:OwnAt base 33 6 Ej W (.slice (some ⟨q,0,none⟩) n cap) lc)(hj:j<lc.length)(c:CV):
  OwnAt base 33 6 Ej ((((((W.setCell ⟨q,j*6,none⟩ (.int .i64 c.node)).setCell ⟨q,j*6+1,none⟩ (.int .i64 c.ix)).setCell ⟨q,j*6+2,none⟩ (.int .i64 c.ep)).setCell ⟨q,j*6+3,none⟩ (.slice c.ae c.ne c.ce)).setCell ⟨q,j*6+4,none⟩ (.slice c.ax c.nx c.cx)).setCell ⟨q,j*6+5,none⟩ (.int .i64 c.off)) (.slice (some ⟨q,0,none⟩) n cap) (lc.set j c):=by
 obtain⟨h1,h2,h3,h4,cur,h5,h6,-⟩:=h.cells;have hb:j*6+6≤cur.size:=by rw[h6];omega
 refine OwnAt.upd EW (by decide) h hj h5 (set_self (set_self (set_self (set_self (set_self (set_self h5)))))) (by simp) (fun i hi=>?_) fun r hr=>?_
 ·simp only[Array.getElem?_setIfInBounds]
  repeat rw[if_neg (by omega)]
 ·simp only[Array.getElem?_setIfInBounds,Array.size_setIfInBounds];rcases (show r=0∨r=1∨r=2∨r=3∨r=4∨r=5 by omega) with rfl|rfl|rfl|rfl|rfl|rfl<;>simp[Ej]<;>omega
abbrev GN(W:World)(q o:Nat)(c:CV): World:=(((((W.setCell ⟨q,o,none⟩ (.int .i64 c.node)).setCell ⟨q,o+1,none⟩ (.int .i64 c.ix)).setCell ⟨q,o+2,none⟩ (.int .i64 c.ep)).setCell ⟨q,o+3,none⟩ (.slice c.ae c.ne c.ce)).setCell ⟨q,o+4,none⟩ (.slice c.ax c.nx c.cx)).setCell ⟨q,o+5,none⟩ (.int .i64 c.off)
theorem MS{W:World}{q o b:Nat}{c:CV}(h:q≠b): (GN W q o c).heap[b]? = W.heap[b]? :=by
 unfold GN;rw[AQ h,AQ h,AQ h,AQ h,AQ h,AQ h]
theorem NW{w0 W:World}{q o:Nat}{c:CV}(g:AA w0 W)(h:w0.heap.size≤q): AA w0 (GN W q o c):=(((((g.set h _).set h _).set h _).set h _).set h _).set h _
theorem BL.setAt{α β:Type}{R:α→β→Prop}{a:α}{b:β}(hr:R a b): ∀{xs:List α} {ys:List β} (i:Nat),BL R xs ys→BL R (xs.set i a) (ys.set i b)
 | [],[],_,_=>trivial
 | _::_,_::_,0,h=>⟨hr,h.2⟩
 | _::_,_::_,i+1,h=>⟨h.1,BL.setAt hr i h.2⟩
theorem DZ.swap2{base q n cap i j:Nat}{W Wy:World}{lc:List CV}{L:List (Ca×Fq)}(h:DZ base W (.slice (some ⟨q,0,none⟩) n cap) lc L)(hi:i<lc.length)(hj:j<lc.length)(hi2:i<L.length)(hj2:j<L.length)(hy:OwnAt base 33 6 Ej Wy (.slice (some ⟨q,0,none⟩) n cap) (lc.set i lc[j]))
  (hby:∀(b:Nat) (cs:Array Value) (t:TypeId),W.heap[b]? = some (.cells cs t)→t≠33→Wy.heap[b]? = some (.cells cs t)) :
  DZ base (GN Wy q (j*6) lc[i]) (.slice (some ⟨q,0,none⟩) n cap) ((lc.set i lc[j]).set j lc[i]) ((L.set i L[j]).set j L[i]):=by
 have hq:∀(b:Nat) (cs:Array Value) (t:TypeId),W.heap[b]? = some (.cells cs t)→t≠33→(GN Wy q (j*6) lc[i]).heap[b]? = W.heap[b]? :=fun b cs t hc ht=>by
  have e:q≠b:=fun e=>OwnAt.other h.o hc ht (by rw[e];rfl)
  rw[MS e,hby b cs t hc ht,hc]
 refine⟨TP hy (j:=j) (by rw[List.length_set];exact hj) lc[i],?_⟩;have hr:BL (I5 (GN Wy q (j*6) lc[i])) lc L:=BL.mono (fun c y q=>⟨q.1,q.2.1,q.2.2.1,q.2.2.2.ackB hq⟩) h.r;have ri:=BL.get hr i lc[i] L[i] (List.getElem?_eq_getElem hi) (List.getElem?_eq_getElem hi2);have rj:=BL.get hr j lc[j] L[j] (List.getElem?_eq_getElem hj) (List.getElem?_eq_getElem hj2);exact BL.setAt ri j (BL.setAt rj i hr)
theorem Vb{w:World}{a:Option Addr}{c n:Nat}{l:List UInt8}(h:AX 1 JS w (.slice a n c) l){i:Nat}(hi:i<l.length): ∃q off,a=some ⟨q,off,none⟩∧Ad q w∧w.cell? ⟨q,off+i,none⟩=some (.int .u8 l[i].toNat):=by
 obtain⟨a',cap',e,-,hx⟩:=h;cases e;obtain⟨q,off,e,hc⟩:=hx (by intro e;subst e;simp at hi);have h1:=hc i l[i] (List.getElem?_eq_getElem hi) 0 _ rfl;simp only[Nat.mul_one,Nat.add_zero] at h1;exact⟨q,off,e,Ad.ofCell h1,h1⟩
theorem A2J(t m k:Nat)(h:k<m): (t:Int)%((m:Int)-(k:Int))=((t%(m-k):Nat):Int):=by
 rw[show(m:Int)-(k:Int)=((m-k:Nat):Int) by omega,←Int.natCast_emod]
theorem A4H{W:World}{q o:Nat}{c0 c1 c2 c3 c4 c5:Value}(h0:W.cell? ⟨q,o,none⟩=some c0)(h1:W.cell? ⟨q,o+1,none⟩=some c1)(h2:W.cell? ⟨q,o+2,none⟩=some c2)(h3:W.cell? ⟨q,o+3,none⟩=some c3)(h4:W.cell? ⟨q,o+4,none⟩=some c4)(h5:W.cell? ⟨q,o+5,none⟩=some c5): ∃u:Nat→Value,∀j,j<6→W.cell? ⟨q,o+j,none⟩=some (u j):=⟨fun j=>match j with|0=>c0|1=>c1|2=>c2|3=>c3|4=>c4|_=>c5,fun j hj=>by
 rcases (show j=0∨j=1∨j=2∨j=3∨j=4∨j=5 by omega) with rfl|rfl|rfl|rfl|rfl|rfl
 ·exact h0
 ·exact h1
 ·exact h2
 ·exact h3
 ·exact h4
 ·exact h5⟩
theorem Q0{d t:Nat}(h:d≠t): (some d:Option Tmp)≠some t:=fun e=>h (Option.some.inj e)
theorem Vg(i:Nat): (Array.replicate 16 false).getD i false=false:=by
 rw[Array.getD_eq_getD_getElem?,Array.getElem?_replicate];split<;>rfl
theorem Fv{L:Array Bool}{i:Nat}(h:i<L.size): (L.setIfInBounds i true).getD i false=true:=by simp[h]
theorem BI{L:Array Bool}{i j:Nat}(h:i≠j): (L.setIfInBounds i true).getD j false=L.getD j false:=by
 rw[Array.getD_eq_getD_getElem?,Array.getD_eq_getD_getElem?,Array.getElem?_setIfInBounds_ne h]
def Dz:List (Nat×Nat):=[(0,108),(1,109),(2,110),(3,111),(4,112),(5,113),(6,114),(7,115),(8,116),(9,117),(10,118),(11,119),(12,120),(14,121)]
def CO(qa n cap k q:Nat)(z d:CV): Nat→Value
 | 0=>.slice (some ⟨qa,0,none⟩) n cap
 | 1=>.int .i64 (k:Int)
 | 2=>.slice (some ⟨qa,0,none⟩) n cap
 | 3=>.int .i64 (q:Int)
 | 4=>.slice (some ⟨qa,0,none⟩) n cap
 | 5=>.int .i64 (q:Int)
 | 6=>.pointer (some ⟨qa,q*6,none⟩)
 | 7=>akv z
 | 8=>.slice (some ⟨qa,0,none⟩) n cap
 | 9=>.int .i64 (k:Int)
 | 10=>.pointer (some ⟨qa,k*6,none⟩)
 | 11=>akv d
 | 12=>.pointer (some ⟨qa,k*6,none⟩)
 | _=>.pointer (some ⟨qa,q*6,none⟩)
structure R15 (w0 w1 w2:World) (a0:Act) (vals:Nat→Value) (L:Array Bool) (a:Act) (w:World):Prop where
 sz:a.tmps.size=299
 df:a.defers=[]
 ot:∀t,t<108∨121<t→a.tmps[t]? = a0.tmps[t]?
 f:∀x∈Dz,L.getD x.1 false=true→a.tmps[x.2]? = some (vals x.1)
 d13:L.getD 13 false=true→∀i,(i=7∨i=11)→L.getD i false=true
 d15:L.getD 15 false=true→L.getD 13 false=true
 h0:L.getD 13 false=false→w=w0
 h1:L.getD 13 false=true→L.getD 15 false=false→w=w1
 h2:L.getD 15 false=true→w=w2
section
variable {w0 w1 w2 w w':World} {a0 a:Act} {vals:Nat→Value} {L:Array Bool}
theorem R15.step(h:R15 w0 w1 w2 a0 vals L a w)(hL:L.size=16)(i d:Nat)(hi:(i,d)∈Dz): R15 w0 w1 w2 a0 vals (L.setIfInBounds i true) (a.put (some d) (vals i)) w:=by
 have hfin:∀x∈Dz,x.1<16∧107<x.2∧x.2<122∧x.1≠13∧x.1≠15:=by decide
 have huni:∀x∈Dz,∀y∈Dz,(x.1=y.1↔x.2=y.2):=by decide
 obtain⟨k1,k2,k3,k4,k5⟩:=hfin _ hi;simp only at k1 k2 k3 k4 k5;refine⟨by rw[Ku];exact h.sz,h.df,fun t ht=>?_,fun x hx hl=>?_,fun hl j hj=>?_,fun hl=>?_,fun hl=>?_,fun hl hm=>?_,fun hl=>?_⟩
 ·rw[Db _ _ _ _ (Q0 (by omega))];exact h.ot t ht
 ·by_cases e:x.1=i
  ·have e2:=(huni x hx _ hi).1 e;simp only at e2;rw[e2,e,FX _ _ _ (by rw[h.sz];omega)]
  ·have e2:x.2≠d:=fun q=>e ((huni x hx _ hi).2 q)
   rw[Db _ _ _ _ (Q0 fun q=>e2 q.symm)];rw[BI (fun q=>e q.symm)] at hl;exact h.f x hx hl
 ·rw[BI k4] at hl;by_cases e:i=j
  ·subst e;exact Fv (by omega)
  ·rw[BI e];exact h.d13 hl j hj
 ·rw[BI k5] at hl;rw[BI k4];exact h.d15 hl
 ·rw[BI k4] at hl;exact h.h0 hl
 ·rw[BI k4] at hl;rw[BI k5] at hm;exact h.h1 hl hm
 ·rw[BI k5] at hl;exact h.h2 hl
theorem R15.st13(h:R15 w0 w1 w2 a0 vals L a w)(hL:L.size=16)(hd:∀j,(j=7∨j=11)→L.getD j false=true)(h15:L.getD 15 false=false): R15 w0 w1 w2 a0 vals (L.setIfInBounds 13 true) a w1:=by
 have hfin:∀x∈Dz,13≠x.1:=by decide
 refine⟨h.sz,h.df,h.ot,fun x hx hl=>?_,fun _ j hj=>?_,fun _=>Fv (by omega),fun hl=>?_,fun _ _=>rfl,fun hl=>?_⟩
 ·rw[BI (hfin x hx)] at hl;exact h.f x hx hl
 ·rw[BI (by omega)];exact hd j hj
 ·rw[Fv (by omega)] at hl;cases hl
 ·rw[BI (by decide),h15] at hl;cases hl
theorem R15.st15(h:R15 w0 w1 w2 a0 vals L a w)(hL:L.size=16)(hd:L.getD 13 false=true): R15 w0 w1 w2 a0 vals (L.setIfInBounds 15 true) a w2:=by
 have hfin:∀x∈Dz,15≠x.1:=by decide
 refine⟨h.sz,h.df,h.ot,fun x hx hl=>?_,fun _ j hj=>?_,fun _=>by rw[BI (by decide)];exact hd,fun hl=>?_,fun _ hl=>?_,fun _=>rfl⟩
 ·rw[BI (hfin x hx)] at hl;exact h.f x hx hl
 ·rw[BI (by omega)];exact h.d13 hd j hj
 ·rw[BI (by decide),hd] at hl;cases hl
 ·rw[Fv (by omega)] at hl;cases hl
end
def Ij(a0:Act)(vals:Nat→Value): List (Nat×Nat)→Act
 | []=>a0
 | x::T=>(Ij a0 vals T).put (some x.2) (vals x.1)
theorem NY(a0:Act)(vals:Nat→Value)(T:List (Nat×Nat)): (Ij a0 vals T).tmps.size=a0.tmps.size:=by
 induction T with
 | nil=>rfl
 | cons x T ih=>rw[Ij,Ku];exact ih
theorem Q7(a0:Act)(vals:Nat→Value)(T:List (Nat×Nat)): (Ij a0 vals T).defers=a0.defers:=by
 induction T with
 | nil=>rfl
 | cons x T ih=>rw[Ij];exact ih
theorem MV(a0:Act)(vals:Nat→Value)(t:Nat): ∀T:List (Nat×Nat),(∀x∈T,x.2≠t)→(Ij a0 vals T).tmps[t]? = a0.tmps[t]?
 | [],_=>rfl
 |x::T,h=>by
  rw[Ij,Db _ _ _ _ (Q0 (h x (List.mem_cons_self ..)))];exact MV a0 vals t T fun y hy=>h y (List.mem_cons_of_mem _ hy)
theorem P8(a0:Act)(vals:Nat→Value): ∀T:List (Nat×Nat),(∀x∈T,x.2<a0.tmps.size)→(T.map Prod.snd).Nodup→∀x∈T,(Ij a0 vals T).tmps[x.2]? = some (vals x.1)
 | [],_,_,_,hx=>nomatch hx
 |y::T,h,hn,x,hx=>by
  rw[List.map_cons,List.nodup_cons] at hn;rw[Ij];rcases List.mem_cons.1 hx with rfl|hx
  ·rw[FX _ _ _ (by rw[NY];exact h _ (List.mem_cons_self ..))]
  ·rw[Db _ _ _ _ (Q0 fun e=>hn.1 (List.mem_map.2 ⟨x,hx,e.symm⟩))];exact P8 a0 vals T (fun y hy=>h y (List.mem_cons_of_mem _ hy)) hn.2 x hx
def LZ(a0:Act)(qa n cap k q:Nat)(z d:CV): Act:=Ij a0 (CO qa n cap k q z d) Dz
theorem A2O{a b:Act}(hs:a.tmps.size=b.tmps.size)(hd:a.defers=b.defers)(h:∀t,t<a.tmps.size→a.tmps[t]? = b.tmps[t]?): a=b:=by
 obtain⟨t1,d1⟩:=a;obtain⟨t2,d2⟩:=b;simp only at hs hd h;subst hd
 congr 1
 refine Array.ext hs fun i h1 h2=>?_
 have:=h i h1;rw[Array.getElem?_eq_getElem h1,Array.getElem?_eq_getElem h2] at this;exact Option.some.inj this
theorem Yi{w0 w1 w2 w:World}{a0 a:Act}{L:Array Bool}{{qa n cap k q:Nat}}{{z d:CV}}(h:R15 w0 w1 w2 a0 (CO qa n cap k q z d) L a w)(hs:a0.tmps.size=299)(hd:a0.defers=[])(hall:∀i,i<16→L.getD i false=true): a=LZ a0 qa n cap k q z d:=by
 refine A2O ?_ ?_ fun t ht=>?_
 ·rw[LZ,NY,h.sz,hs]
 ·rw[LZ,Q7,h.df,hd]
 ·rw[LZ];by_cases hc:∃x∈Dz,x.2=t
  ·obtain⟨x,hx,rfl⟩:=hc;have h1:∀x∈Dz,x.2<299∧x.1<16:=by decide
   rw[P8 a0 _ Dz (fun y hy=>by rw[hs];exact(h1 y hy).1) (by decide) x hx];exact h.f x hx (hall _ (h1 x hx).2)
  ·rw[MV a0 _ t Dz fun x hx e=>hc ⟨x,hx,e⟩];have h2:∀t,t<122→107<t→∃x∈Dz,x.2=t:=by decide
   refine h.ot t ?_;rcases Nat.lt_or_ge t 108 with h3|h3
   ·exact .inl h3
   ·rcases Nat.lt_or_ge 121 t with h4|h4
    ·exact .inr h4
    ·exact absurd (h2 t (by omega) (by omega)) hc
def MW:Code→Option Code
 | .region k o b=>if k=15 then some (.region k o b) else none
 |.seq a b=>match MW a with
  | some c=>some c
  | none=>MW b
 | .loop c=>MW c
 | .block _ c=>MW c
 | .scope c=>MW c
 |.cond _ a b=>match MW a with
  | some c=>some c
  | none=>MW b
 | _=>none
theorem A2P(w0 W0:World)(qa n cap k q:Nat)(z d:CV)(a0:Act)(Q:Exit→Act→World→Prop)(hW0:W0=w0.drew)(h11:a0.tmps[11]? = some (.slice (some ⟨qa,0,none⟩) n cap))(h12:a0.tmps[12]? = some (.int .i64 (k:Int)))(h13:a0.tmps[13]? = some (.int .i64 (q:Int)))(hkn:(k:Int)<n)(hqn:(q:Int)<n)(pq:Ad qa W0)
  (x0:W0.cell? ⟨qa,k*6,none⟩=some (.int .i64 d.node)) (x1:W0.cell? ⟨qa,k*6+1,none⟩=some (.int .i64 d.ix)) (x2:W0.cell? ⟨qa,k*6+2,none⟩=some (.int .i64 d.ep)) (x3:W0.cell? ⟨qa,k*6+3,none⟩=some (.slice d.ae d.ne d.ce)) (x4:W0.cell? ⟨qa,k*6+4,none⟩=some (.slice d.ax d.nx d.cx)) (x5:W0.cell? ⟨qa,k*6+5,none⟩=some (.int .i64 d.off))
  (y0:W0.cell? ⟨qa,q*6,none⟩=some (.int .i64 z.node)) (y1:W0.cell? ⟨qa,q*6+1,none⟩=some (.int .i64 z.ix)) (y2:W0.cell? ⟨qa,q*6+2,none⟩=some (.int .i64 z.ep)) (y3:W0.cell? ⟨qa,q*6+3,none⟩=some (.slice z.ae z.ne z.ce)) (y4:W0.cell? ⟨qa,q*6+4,none⟩=some (.slice z.ax z.nx z.cx)) (y5:W0.cell? ⟨qa,q*6+5,none⟩=some (.int .i64 z.off))
  (hf0:∀o,W0.frozen? ⟨qa,o,none⟩=false) (W1:World) (hW1:W1=GN W0 qa (k*6) z) (pq1:Ad qa W1) (hf1:∀o,W1.frozen? ⟨qa,o,none⟩=false) (u:Nat→Value) (hu:∀j,j<6→W1.cell? ⟨qa,q*6+j,none⟩=some (u j)) (hs:a0.tmps.size=299) (hd:a0.defers=[])
  (hQ:Q .normal (LZ a0 qa n cap k q z d) (GN W1 qa (q*6) d)) :
  Code.wp Tryz.prog ((Tryz.f3.body.bind MW).getD .skip) Q a0 w0:=by
 conv=>arg 2;whnf
 refine Ou (by kernel_rfl) (by kernel_rfl) (R15 W0 W1 (GN W1 qa (q*6) d) a0 (CO qa n cap k q z d)) ?_ ?_ (fun L a w hL hR hall=>?_)
 ·refine⟨hs,hd,fun _ _=>rfl,fun x hx hl=>?_,fun hl=>?_,fun hl=>?_,fun _=>hW0.symm,fun hl=>?_,fun hl=>?_⟩<;>(have hl:=(Vg _).symm.trans hl;cases hl)
 ·intro L a w i o hL hR ho hnl hdep;have hL:L.size=16:=hL;have hi:i<16:=(List.getElem?_eq_some_iff.1 ho).1;have e11:=(hR.ot 11 (.inl (by decide))).trans h11;have e12:=(hR.ot 12 (.inl (by decide))).trans h12;have e13:=(hR.ot 13 (.inl (by decide))).trans h13;have HF:=hY (fun(x:Nat×Nat) (hx:x∈Dz) (hl:L.getD x.1 false=true)=>hR.f x hx hl)
  have hnl':∀j,L.getD j true=false→L.getD j false=false:=fun j h=>by
   rw[Array.getD_eq_getD_getElem?] at h ⊢
   cases hq:L[j]? with
   | none=>rfl
   | some b=>rw[hq] at h;exact h
  have hcs:i=0∨i=1∨i=2∨i=3∨i=4∨i=5∨i=6∨i=7∨i=8∨i=9∨i=10∨i=11∨i=12∨i=13∨i=14∨i=15:=by omega
  have hRR:=hY hR;clear hR hQ;rcases hcs with rfl|rfl|rfl|rfl|rfl|rfl|rfl|rfl|rfl|rfl|rfl|rfl|rfl|rfl|rfl|rfl
  ·cases ho;unfold Oper.wp;simp[execOp,Act.eval,e11,CO,go_sem];exact hRR.o.step hL 0 108 (by decide)
  ·cases ho;unfold Oper.wp;simp[execOp,Act.eval,e12,CO,go_sem];exact hRR.o.step hL 1 109 (by decide)
  ·cases ho;unfold Oper.wp;simp[execOp,Act.eval,e11,CO,go_sem];exact hRR.o.step hL 2 110 (by decide)
  ·cases ho;unfold Oper.wp;simp[execOp,Act.eval,e13,CO,go_sem];exact hRR.o.step hL 3 111 (by decide)
  ·cases ho;unfold Oper.wp;simp[execOp,Act.eval,e11,CO,go_sem];exact hRR.o.step hL 4 112 (by decide)
  ·cases ho;unfold Oper.wp;simp[execOp,Act.eval,e13,CO,go_sem];exact hRR.o.step hL 5 113 (by decide)
  ·cases ho;have g1:=HF.o (4,112) (by decide) (hdep 4 (by decide));have g2:=HF.o (5,113) (by decide) (hdep 5 (by decide));simp only[CO] at g1 g2;unfold Oper.wp;simp[execOp,Act.eval,g1,g2,CO,go_sem,hkn,hqn];exact hRR.o.step hL 6 114 (by decide)
  ·cases ho;have g1:=HF.o (6,114) (by decide) (hdep 6 (by decide));simp only[CO] at g1
   have h13f:L.getD 13 false=false:=by
    cases hq:L.getD 13 false with
    | false=>rfl
    | true=>have:=hRR.o.d13 hq 7 (by decide);rw[hnl' _ hnl] at this;cases this
   have hw:=hRR.o.h0 h13f;subst hw;unfold Oper.wp;simp[execOp,Act.eval,g1,CO,go_sem,y0,y1,y2,y3,y4,y5,pq];exact hRR.o.step hL 7 115 (by decide)
  ·cases ho;unfold Oper.wp;simp[execOp,Act.eval,e11,CO,go_sem];exact hRR.o.step hL 8 116 (by decide)
  ·cases ho;unfold Oper.wp;simp[execOp,Act.eval,e12,CO,go_sem];exact hRR.o.step hL 9 117 (by decide)
  ·cases ho;have g1:=HF.o (8,116) (by decide) (hdep 8 (by decide));have g2:=HF.o (9,117) (by decide) (hdep 9 (by decide));simp only[CO] at g1 g2;unfold Oper.wp;simp[execOp,Act.eval,g1,g2,CO,go_sem,hkn,hqn];exact hRR.o.step hL 10 118 (by decide)
  ·cases ho;have g1:=HF.o (10,118) (by decide) (hdep 10 (by decide));simp only[CO] at g1
   have h13f:L.getD 13 false=false:=by
    cases hq:L.getD 13 false with
    | false=>rfl
    | true=>have:=hRR.o.d13 hq 11 (by decide);rw[hnl' _ hnl] at this;cases this
   have hw:=hRR.o.h0 h13f;subst hw;unfold Oper.wp;simp[execOp,Act.eval,g1,CO,go_sem,x0,x1,x2,x3,x4,x5,pq];exact hRR.o.step hL 11 119 (by decide)
  ·cases ho;have g1:=HF.o (0,108) (by decide) (hdep 0 (by decide));have g2:=HF.o (1,109) (by decide) (hdep 1 (by decide));simp only[CO] at g1 g2;unfold Oper.wp;simp[execOp,Act.eval,g1,g2,CO,go_sem,hkn,hqn];exact hRR.o.step hL 12 120 (by decide)
  ·cases ho;have g1:=HF.o (12,120) (by decide) (hdep 12 (by decide));have g2:=HF.o (7,115) (by decide) (hdep 7 (by decide));simp only[CO] at g1 g2;have hw:=hRR.o.h0 (hnl' _ hnl);subst hw
   have h15:L.getD 15 false=false:=by
    cases hq:L.getD 15 false with
    | false=>rfl
    | true=>have:=hRR.o.d15 hq;rw[hnl' _ hnl] at this;cases this
   unfold Oper.wp;simp[execOp,Act.eval,g1,g2,akv,go_sem,x0,x1,x2,x3,x4,x5,pq,hf0];have hW2:=hW1;unfold GN at hW2;rw[←hW2];exact hRR.o.st13 hL (fun j hj=>hdep j (by rcases hj with rfl|rfl<;>decide)) h15
  ·cases ho;have g1:=HF.o (2,110) (by decide) (hdep 2 (by decide));have g2:=HF.o (3,111) (by decide) (hdep 3 (by decide));simp only[CO] at g1 g2;unfold Oper.wp;simp[execOp,Act.eval,g1,g2,CO,go_sem,hkn,hqn];exact hRR.o.step hL 14 121 (by decide)
  ·cases ho;have g1:=HF.o (14,121) (by decide) (hdep 14 (by decide));have g2:=HF.o (11,119) (by decide) (hdep 11 (by decide));simp only[CO] at g1 g2;have h13:=hdep 13 (by decide);have hw:=hRR.o.h1 h13 (hnl' _ hnl);subst hw;have u0:=hu 0 (by decide);have u1:=hu 1 (by decide);have u2:=hu 2 (by decide);have u3:=hu 3 (by decide);have u4:=hu 4 (by decide);have u5:=hu 5 (by decide);simp only[Nat.add_zero] at u0;unfold Oper.wp;simp[execOp,Act.eval,g1,g2,akv,go_sem,u0,u1,u2,u3,u4,u5,pq1,hf1];exact hRR.o.st15 hL h13
 ·have h16:∀i,i<16→L.getD i false=true:=hall;rw[Yi hR hs hd h16,hR.h2 (h16 15 (by decide))];exact hQ
theorem YZ(x b n:Nat)(g:List Gr.Nd)(ep:Int)(m:List (Ca×CV))(c:Dy)(vp:Value)(w:World)(h:BN w x b n g ep m)(hn:n≤1000)(hml:m.length<(Af g).length):
  Calls Tryz.prog 11 #[.pointer (some ⟨x,0,none⟩),.agg #[.int .i64 c.epoch,.int .i64 c.plans,.slice c.ao c.no c.co,.slice c.ag c.ng c.cg,.slice c.ae c.ne c.ce,.slice c.ax c.nx c.cx,.slice c.ap c.np c.cp],vp] w (Ac (.tuple #[.agg #[.int .i64 0,.int .i64 0,.slice none 0 0,.slice none 0 0,.slice none 0 0,.slice none 0 0,.slice none 0 0],.int .i64 15]) w):=by
 have HMI:=hY fun W (q:AA w W)=>F8 x b n g ep m W (h.grew q) hn
 obtain⟨k,hk⟩:∃k:Nat,((Af g).length:Int)-m.length=(k:Int):=⟨(Af g).length-m.length,by omega⟩;have hk1:1≤k:=by omega
 rw[hk] at HMI;clear h hn hml hk;obtain⟨ep',pl,ao,no,co,ag,ng,cg,ae,ne,ce,ax,nx,cx,ap,np,cp⟩:=c;show Calls Tryz.prog _ #[.pointer (some ⟨x,0,none⟩),.agg #[.int .i64 ep',.int .i64 pl,.slice ao no co,.slice ag ng cg,.slice ae ne ce,.slice ax nx cx,.slice ap np cp],vp] w _;go_enter Tryz.func11,Tryz.ntmps11
 go_wp2_with (go_at_call 21;refine(HMI.o _ gw).mono ?_;rintro e w1 ⟨rfl,R1,n1,rfl⟩)
 refine bodyPost_ret (v:=.tuple #[.agg #[.int .i64 0,.int .i64 0,.slice none 0 0,.slice none 0 0,.slice none 0 0,.slice none 0 0,.slice none 0 0],.int .i64 15]) (by simp[results,Tryz.results11,go_sem]) rfl ?_;exact⟨rfl,gw⟩
def JK(c:Dy): List Value:=[.int .i64 c.epoch,.int .i64 c.plans,.slice c.ao c.no c.co,.slice c.ag c.ng c.cg,.slice c.ae c.ne c.ce,.slice c.ax c.nx c.cx,.slice c.ap c.np c.cp]
noncomputable def rP(g:List Gr.Nd)(wh:Wh): Int×Nat×List Gr.Nd:=FN (Gr.normG g) wh.plan
noncomputable def mMk(g:List Gr.Nd)(wh:Wh)(l9:List Gr.Nd)(s:List Tab.En): Gr.Mf:=⟨9,(if wh.plan=[] then 0 else 1),EG (Ak g wh 8),Gr.normG l9,s,Fh (Ak g wh 8),wh.plan.map Gr.cleanS⟩
structure Kc (W:World) (g:List Gr.Nd) (wh:Wh) (c:Dy) (code:Int):Prop where
 bad:CG (EH (Ak g wh 8))=false→code=1
 err:CG (EH (Ak g wh 8))=true→(rP g wh).1≠0→code=(rP g wh).1
 ok:CG (EH (Ak g wh 8))=true→(rP g wh).1=0→∃l9 s,l9.Perm (rP g wh).2.2∧s.Perm (Gc (Tab.newT (EH (Ak g wh 8))) wh.plan)∧(s.Pairwise fun a b=>Tab.num a≤Tab.num b)∧(BS (mMk g wh l9 s)=true→code=0∧Dl W c (mMk g wh l9 s))∧(BS (mMk g wh l9 s)=false→code=1)
theorem Kc.grew{W W':World}{g:List Gr.Nd}{wh:Wh}{c:Dy}{code:Int}(h:Kc W g wh c code)(q:AA W W'): Kc W' g wh c code :=
 ⟨h.bad,h.err,fun a b=>let ⟨l9,s,h1,h2,h3,h4,h5⟩:=h.ok a b;⟨l9,s,h1,h2,h3,fun r=>⟨(h4 r).1,(h4 r).2.grew q⟩,h5⟩⟩
def A4G:Dy:=⟨0,0,none,0,0,none,0,0,none,0,0,none,0,0,none,0,0⟩
theorem A0l{w w':World}{g:List Gr.Nd}{wh:Wh}{e:Ending}(h:Ew w 9 ((J7 g).plans+if wh.plan=[] then 0 else 1) (J7 g) (Gr.normG g) (EG (Ak g wh 8)) (Fh (Ak g wh 8)) (EH (Ak g wh 8)) (rP g wh) wh.plan e w'): ∃(c:Dy) (code:Int),e = .returned (.tuple #[.agg #[.int .i64 c.epoch,.int .i64 c.plans,.slice c.ao c.no c.co,.slice c.ag c.ng c.cg,.slice c.ae c.ne c.ce,.slice c.ax c.nx c.cx,.slice c.ap c.np c.cp],.int .i64 code])∧Kc w' g wh c code∧AA w w':=by
 obtain⟨h1,h2,h3⟩:=h
 cases hn:CG (EH (Ak g wh 8)) with
 |false =>
  obtain⟨rfl,q⟩:=h1 hn
  exact⟨A4G,1,rfl,⟨fun _=>rfl,fun q=>absurd (hn.symm.trans q) (by decide),fun q=>absurd (hn.symm.trans q) (by decide)⟩,q⟩
 |true =>
  by_cases hr:(rP g wh).1=0
  ·obtain⟨l9,hp,s,hs1,hs2,hs3,hs4⟩:=h3 hn hr;have e0:(J7 g).plans+(if wh.plan=[] then (0:Int) else 1)=if wh.plan=[] then 0 else 1:=Int.zero_add _
   rw[e0] at hs3 hs4
   cases hb:BS (mMk g wh l9 s) with
   |true =>
    obtain⟨c,rfl,hm,q⟩:=hs3 ⟨hb,by show(0:Int)<9;decide,rfl⟩
    exact⟨c,0,rfl,⟨fun q=>absurd (hn.symm.trans q) (by decide),fun _ q=>absurd hr q,fun _ _=>⟨l9,s,hp,hs1,hs2,fun _=>⟨rfl,hm⟩,fun q=>absurd (hb.symm.trans q) (by decide)⟩⟩,q⟩
   |false =>
    obtain⟨rfl,q⟩:=hs4 fun q=>absurd (hb.symm.trans q.1) (by decide)
    exact⟨A4G,1,rfl,⟨fun q=>absurd (hn.symm.trans q) (by decide),fun _ q=>absurd hr q,fun _ _=>⟨l9,s,hp,hs1,hs2,fun q=>absurd (hb.symm.trans q) (by decide),fun _=>rfl⟩⟩,q⟩
  ·obtain⟨rfl,q⟩:=h2 hn hr;exact⟨⟨0,0,none,0,0,none,0,0,none,0,0,none,0,0,none,0,0⟩,_,rfl,⟨fun q=>absurd (hn.symm.trans q) (by decide),fun _ _=>rfl,fun _ q=>absurd q hr⟩,q⟩
theorem A0m{w W:World}{av:Option Addr}{cv:Nat}{g:List Gr.Nd}{ce:Option Addr}{cE:Nat}{cl:Option Addr}{cL:Nat}{cp:Option Addr}{cP:Nat}{wh:Wh}{x b P:Nat}{a5:Option Addr}{c5:Nat}{a6:Option Addr}{c6:Nat}{lc:List CV}(hA:JZ w av cv g ce cE cl cL cp cP wh)(hB:Ck w W av cv g ce cE cl cL cp cP wh x b P a5 c5 a6 c6 lc.length (Cq lc))(hC:DF W (Gr.normG g) (Cq lc) (ET (Gr.normG g) wh))(hl:lc.length=(Af (Gr.normG g)).length)(hl9:lc.length≤24)(W2:World)(q:AA W W2)(c:Dy)(pm:Gr.Mf)(hc:Dl W2 c pm)(hg:pm.graph=Gr.normG g)(hp:0≤pm.plans∧pm.plans≤1000000):
  Calls Tryz.prog 11 #[.pointer (some ⟨x,0,none⟩),.agg #[.int .i64 c.epoch,.int .i64 c.plans,.slice c.ao c.no c.co,.slice c.ag c.ng c.cg,.slice c.ae c.ne c.ce,.slice c.ax c.nx c.cx,.slice c.ap c.np c.cp],.slice cp wh.plan.length cP] W2 (Ew W2 9 (pm.plans+if wh.plan=[] then 0 else 1) pm (Gr.normG g) (EG (Ak g wh 8)) (Fh (Ak g wh 8)) (EH (Ak g wh 8)) (rP g wh) wh.plan):=by
 have hr2:=FM hA.r;have h:=YY x b lc.length (Gr.normG g) 9 (Cq lc) (ET (Gr.normG g) wh) c pm _ wh.plan W2 (hB.ga.grew q) (by omega) (by rw[Py,hl]) (hC.grew q) hc (by rw[hg];exact Gr.normG_sorted g) (by rw[hg];exact G9 hA.r hA.s) (by rw[hg];have:=hr2.len;omega) (hA.whi.p.grew (hB.gr.trans q)) (Nat.le_trans hA.pl (by decide)) hA.ps hp _ rfl _ rfl;rw[A2E hr2,A3c hr2,A3d hr2,←NS hA.r] at h;exact h
theorem Yf{L:List (Ca×Fq)}{k:Nat}(hk:k<L.length): EH (L.take (k+1))=EH (L.take k)++L[k].2.ents:=by
 unfold EH;rw[List.take_succ_eq_append_getElem hk,List.flatMap_append,List.flatMap_cons,List.flatMap_nil,List.append_nil]
theorem Yg{L:List (Ca×Fq)}{k:Nat}(hk:k<L.length): Fh (L.take (k+1))=Fh (L.take k)++L[k].2.lines:=by
 unfold Fh;rw[List.take_succ_eq_append_getElem hk,List.flatMap_append,List.flatMap_cons,List.flatMap_nil,List.append_nil]
theorem Ve{L:List (Ca×Fq)}{k:Nat}(hk:k<L.length): EG (L.take (k+1))=EG (L.take k)++if L[k].1.1=0 then [L[k].2.off] else []:=by
 unfold EG;rw[List.take_succ_eq_append_getElem hk,List.flatMap_append,List.flatMap_cons,List.flatMap_nil,List.append_nil]
theorem A0n{L:List (Ca×Fq)}{k j:Nat}(hk:k<L.length)(hj:j<L[k].2.ents.length)(h:EA L[k].2.ents[j]=false): CG (EH L)=false:=by
 unfold CG;rw[List.all_eq_false];exact⟨_,List.mem_flatMap.2 ⟨_,List.getElem_mem hk,List.getElem_mem hj⟩,by rw[h];decide⟩
theorem Vf(l:List Tab.En)(x:Tab.En): CG (l++[x])=(CG l&&EA x):=by
 unfold CG;rw[List.all_append];simp
theorem Yh:Tryz.zeroCells55=Array.replicate 2048 (.int .i64 0):=by kernel_rfl
theorem A3p(W:World)(t:Nat)(ht:t=W.heap.size): RTabAt (W.alloc (.cells Tryz.zeroCells55 55)) t (fun _ _=>zer):=by
 rw[Yh];exact RTabAt.made W t ht
abbrev at4(W:World)(t o:Nat)(a b c d:Int): World:=(((W.setCell ⟨t,o,none⟩ (.int .i64 a)).setCell ⟨t,o+1,none⟩ (.int .i64 b)).setCell ⟨t,o+2,none⟩ (.int .i64 c)).setCell ⟨t,o+3,none⟩ (.int .i64 d)
theorem LY{W:World}{t o q:Nat}{a b c d:Int}(h:q≠t): (at4 W t o a b c d).heap[q]? = W.heap[q]? :=by
 unfold at4;rw[AQ (fun e=>h e.symm),AQ (fun e=>h e.symm),AQ (fun e=>h e.symm),AQ (fun e=>h e.symm)]
structure GQ (w0 W:World) (t:Nat) (f:CR) (base:Nat) (v:Value) (lc:List CV) (L:List (Ca×Fq)):Prop where
 gr:AA w0 W
 rt:RTabAt W t f
 lt:w0.heap.size≤t
 a:DZ base W v lc L
theorem GQ.grew{w0 W W':World}{t:Nat}{f:CR}{base:Nat}{v:Value}{lc:List CV}{L:List (Ca×Fq)}(h:GQ w0 W t f base v lc L)(q:AA W W'): GQ w0 W' t f base v lc L:=⟨h.gr.trans q,h.rt.grew q,h.lt,h.a.grew q⟩
theorem GQ.set{w0 W:World}{t:Nat}{f:CR}{base:Nat}{v:Value}{lc:List CV}{L:List (Ca×Fq)}(h:GQ w0 W t f base v lc L){n k:Nat}(hn:n<8)(hk:k<64)(a b c d:Int): GQ w0 (at4 W t (n*256+k*4) a b c d) t (WE f n k ((a,b),(c,d))) base v lc L:=by
 obtain⟨C,h1,h2⟩:=h.rt;refine⟨(((h.gr.set h.lt _).set h.lt _).set h.lt _).set h.lt _,h.rt.set hn hk a b c d,h.lt,OwnAt.same h.a.o fun b hb=>LY fun e=>OwnAt.other h.a.o h1 (by decide) (e▸hb),BL.mono (fun c y q=>⟨q.1,q.2.1,q.2.2.1,?_⟩) h.a.r⟩;obtain⟨q1,⟨b1,q2⟩,⟨b2,q3⟩,q4⟩:=q.2.2.2;exact⟨q1,⟨b1,OwnAt.same q2 fun b hb=>LY fun e=>OwnAt.other q2 h1 (by decide) (e▸hb)⟩,⟨b2,OwnAt.same q3 fun b hb=>LY fun e=>OwnAt.other q3 h1 (by decide) (e▸hb)⟩,q4⟩
theorem A3k(w W2 W:World)(av:Option Addr)(cv:Nat)(g:List Gr.Nd)(ce:Option Addr)(cE:Nat)(cl:Option Addr)(cL:Nat)(cp:Option Addr)(cP:Nat)(wh:Wh)(x b P:Nat)(a5:Option Addr)(c5:Nat)(a6:Option Addr)(c6:Nat)(lc:List CV)(Q:Exit→Act→World→Prop)(a0:Act)
  (hA:JZ w av cv g ce cE cl cL cp cP wh) (hB:Ck w W2 av cv g ce cE cl cL cp cP wh x b P a5 c5 a6 c6 lc.length (Cq lc)) (hC:DF W2 (Gr.normG g) (Cq lc) (ET (Gr.normG g) wh)) (hl:lc.length=(Af (Gr.normG g)).length) (hl9:lc.length≤24) (hG:AA W2 W) (hF:Js w x P av cv g a0)
  (hret:∀a' w',Ow w a' w'→Q .ret a' w')
  (hnext:∀wm a' w' c' code t B f,AA W wm→AA wm w'→Js w x P av cv g a'→a'.tmps.getD 18 undef = .pointer (some ⟨B,0,none⟩)→a'.tmps.getD 19 undef = .int .i64 code→a'.tmps.getD 20 undef = .pointer (some ⟨t,0,none⟩)→wm.heap[B]? = some (.cells (JK c').toArray 42)→Kc wm g wh c' code→wm.heap.size≤t→RTabAt w' t f→Dt (Tab.newT (EH (Ak g wh 8))) f→CG (EH (Ak g wh 8))=true→Code.wp Tryz.prog (FO 39) Q a' w') :
  Code.wp Tryz.prog (FO 26) Q a0 W:=by
 obtain⟨hfr,h0,h4,h7,h9⟩:=hF;obtain⟨u,hu⟩:∃u:Nat→Value,u=fun i=>a0.tmps.getD i undef:=⟨_,rfl⟩
 rw[←hu] at hfr;have u0:u 0=_:=(congrFun hu 0).trans h0;have u4:u 4=_:=(congrFun hu 4).trans h4;have u7:u 7=_:=(congrFun hu 7).trans h7;have u9:u 9=_:=(congrFun hu 9).trans h9;clear hu h0 h4 h7 h9;subst hfr
 conv=>arg 2;whnf
 unfold Ii;rw[u0,u4,u7,u9];clear u0 u4 u7 u9;have HA:=hY hA;have HB:=hY (hB.grew hG);have HB2:=hY hB;have HC:=hY hC;have HL:=hY hl;have HG:=hY hG;have HRET:=hY hret;have HNX:=hY hnext;clear hA hB hC hret hnext hG hl;have HMK:=hY fun W3 (q:AA W W3)=>A0m HA.o HB2.o HC.o HL.o hl9 W3 (HG.o.trans q) ⟨0,0,a5,(Be g).toNat,c5,a6,(Gr.normG g).length,c6,none,0,0,none,0,0,none,0,0⟩ (J7 g) (HB.o.pm.grew q) rfl ⟨Int.le_refl _,by show(0:Int)≤1000000;decide⟩
 have HAC:=hY fun W3 (q:AA W W3)=>OD av cv g ce cE cl cL cp cP wh W3 (HA.o.hv.grew (HB.o.gr.trans q)) (HA.o.whi.grew (HB.o.gr.trans q)) HA.o.r HA.o.el HA.o.ll
 have hul:=EX wh (fun n hn=>((DN HA.o.r) n hn).1.2) 8;have HUL:=hY hul;clear hul;have b0:=cell_of (o:=0) (W:=W) HB.o.wb;have b1:=cell_of (o:=1) (W:=W) HB.o.wb;have b2:=cell_of (o:=2) (W:=W) HB.o.wb;have b3:=cell_of (o:=3) (W:=W) HB.o.wb;have b4:=cell_of (o:=4) (W:=W) HB.o.wb;have b5:=cell_of (o:=5) (W:=W) HB.o.wb;simp at b0 b1 b2 b3 b4 b5;have pbw:=Ad.mk (W:=W) (AB HB.o.wb);have p0:=cell_of (o:=0) (W:=W) HB.o.pb;have p1:=cell_of (o:=1) (W:=W) HB.o.pb;have p2:=cell_of (o:=2) (W:=W) HB.o.pb;have p3:=cell_of (o:=3) (W:=W) HB.o.pb;have p4:=cell_of (o:=4) (W:=W) HB.o.pb;have p5:=cell_of (o:=5) (W:=W) HB.o.pb;have p6:=cell_of (o:=6) (W:=W) HB.o.pb;simp at p0 p1 p2 p3 p4 p5 p6;have ppp:=Ad.mk (W:=W) (AB HB.o.pb)
 go_upto_region 27 with (go_at_call 11;((with_reducible refine Calls.mono (HMK.o _ ?_) ?_));(focus(exact gw));rintro e1 w1 hm;obtain⟨c',code,rfl,hres,R3,n3,rfl⟩:=A0l hm;obtain⟨ep2,pl2,ao2,no2,co2,ag2,ng2,cg2,ae2,ne2,ce2,ax2,nx2,cx2,ap2,np2,cp2⟩:=c';(have HRES:=hY hres);clear hres hm)
 have hwm:∃wm,wm=(W.more R3 n3).alloc (.cells #[.int .i64 ep2,.int .i64 pl2,.slice ao2 no2 co2,.slice ag2 ng2 cg2,.slice ae2 ne2 ce2,.slice ax2 nx2 cx2,.slice ap2 np2 cp2] 42):=⟨_,rfl⟩;obtain⟨wm,hwm⟩:=hwm;have hB9:wm.heap[W.heap.size+R3.size]? = some (.cells #[.int .i64 ep2,.int .i64 pl2,.slice ao2 no2 co2,.slice ag2 ng2 cg2,.slice ae2 ne2 ce2,.slice ax2 nx2 cx2,.slice ap2 np2 cp2] 42):=by rw[hwm];exact AO _ _ _ (by simp[World.more_size])
 have HGM:Hid (AA W wm):=hY (by rw[hwm];exact gw);have HRM:=hY (HRES.o.grew (show AA _ wm by rw[hwm];exact gw));have HB9:=hY hB9;rw[←hwm];clear hwm hB9 HRES b0 b1 b2 b3 b4 b5 pbw p0 p1 p2 p3 p4 p5 p6 ppp;generalize W.heap.size+R3.size=B at *;have b0:=cell_of (o:=0) (W:=wm) (HB.o.grew HGM.o).wb;have b1:=cell_of (o:=1) (W:=wm) (HB.o.grew HGM.o).wb;have b2:=cell_of (o:=2) (W:=wm) (HB.o.grew HGM.o).wb;have b3:=cell_of (o:=3) (W:=wm) (HB.o.grew HGM.o).wb;have b4:=cell_of (o:=4) (W:=wm) (HB.o.grew HGM.o).wb;have b5:=cell_of (o:=5) (W:=wm) (HB.o.grew HGM.o).wb;simp at b0 b1 b2 b3 b4 b5;have pbw:=Ad.mk (W:=wm) (AB (HB.o.grew HGM.o).wb)
 go_wp2_with (go_at_call 10;((with_reducible refine Calls.mono (HAC.o _ ?_) ?_));(focus(exact HGM.o.trans gw));rintro e1 w1 ⟨aL,cL2,lc2,rfl,hS⟩;obtain⟨R4,n4,rfl⟩:=hS.g;(have HTB:Hid (GQ wm _ wm.heap.size (fun _ _=>zer) _ (.slice aL lc2.length cL2) lc2 (Ak g wh 8)):=hY ⟨gw,(A3p wm _ rfl).grew gw,Nat.le_refl _,hS.own⟩);clear hS)
 have hlc2:=BL.len HTB.o.a.r;have HLC2:=hY hlc2;have hlc24:lc2.length≤24:=by have:=HUL.o;omega
 obtain⟨base,hbase⟩:∃base,base=(wm.alloc (.cells Tryz.zeroCells55 55)).heap.size:=⟨_,rfl⟩;rw[←hbase] at HTB;clear hlc2 hbase b0 b1 b2 b3 b4 b5 pbw HAC HMK;generalize hL8:Ak g wh 8=L8 at *;have HL8:=hY hL8;clear hL8
 go_loopg [158] lc2.length (fun gg s158 wr=>∃k:Nat,k≤lc2.length∧lc2.length-k≤gg∧s158 = .int .i64 (k:Int)∧Hid (∃f,GQ wm wr wm.heap.size f base (.slice aL lc2.length cL2) lc2 L8∧Dt (Tab.newT (EH (L8.take k))) f)∧Hid (CG (EH (L8.take k))=true))
 case atStart=>exact⟨0,by omega,by omega,rfl,hY ⟨_,HTB.o.grew gw,Dt.nil⟩,hY rfl⟩
 case round =>
  obtain⟨k,hk,hgg,rfl,HEX,HOK⟩:=hrel;rename World=>wa;obtain⟨f,htb,hrl⟩:=HEX.o;have HT:=hY htb;have HRL:=hY hrl;clear htb hrl HEX;by_cases hlt:k<lc2.length
  ·have hk8:k<L8.length:=by rw[←HLC2.o];exact hlt
   obtain⟨qa,eqa,-,pa,x0,x1,x2,x3,x4,x5⟩:=E8 HT.o.a.o hlt;subst eqa;have HEB:=hY fun j (hj:j<L8[k].2.ents.length) h=>A0n hk8 hj h
   have HET:=hY (Yf hk8);have HAK:Hid (∀Wx f,GQ wm Wx wm.heap.size f base (.slice (some ⟨qa,0,none⟩) lc2.length cL2) lc2 L8→J8 Wx lc2[k] L8[k].2):=hY fun Wx f h=>(BL.get h.a.r k lc2[k] L8[k] (List.getElem?_eq_getElem hlt) (List.getElem?_eq_getElem hk8)).2.2.2
   have hln:L8[k].2.ents.length≤100:=(HAK.o _ _ HT.o).2.2.2.1;have hsl:=(HAK.o _ _ HT.o).2.1;generalize lc2[k]=y at *;generalize L8[k].2=Y at *;obtain⟨ys,hys⟩:∃ys,Y.ents=ys:=⟨_,rfl⟩;rw[hys] at hln HET hsl;have HYS:=hY hys;obtain⟨bE,hsl⟩:=hsl;obtain⟨aE,cEE,eE⟩:=(OwnAt.rows hsl Az).len;obtain⟨d0,d1,d2,d3,d4,d5,d6,d7,d8,d9⟩:=y;simp only at x0 x1 x2 x3 x4 x5 eE;cases eE
   have HEN:Hid (∀Wx f,GQ wm Wx wm.heap.size f base (.slice (some ⟨qa,0,none⟩) lc2.length cL2) lc2 L8→Bp Wx (.slice aE ys.length cEE) ys):=hY fun Wx f h=>by
    obtain⟨-,⟨b9,q⟩,-⟩:=HAK.o Wx f h;rw[hys] at q;exact OwnAt.rows q Az
   have HEB2:Hid (∀j (hj:j<ys.length),EA ys[j]=false→CG (EH L8)=false):=hY (by
    subst hys
    exact HEB.o)
   clear HEB HAK hsl hys HYS;generalize hP:EH (L8.take k)=P9 at *;have HP9:=hY hP;clear hP;go_wp2
   go_loopg [165] ys.length (fun gg2 s165 wr2=>∃j:Nat,j≤ys.length∧ys.length-j≤gg2∧s165 = .int .i64 (j:Int)∧Hid (∃f,GQ wm wr2 wm.heap.size f base (.slice (some ⟨qa,0,none⟩) lc2.length cL2) lc2 L8∧Dt (Tab.newT (P9++ys.take j)) f)∧Hid (CG (P9++ys.take j)=true))
   case atStart=>exact⟨0,by omega,by omega,rfl,hY ⟨_,HT.o.grew gw,by rw[List.take_zero,List.append_nil];exact HRL.o⟩,hY (by rw[List.take_zero,List.append_nil];exact HOK.o)⟩
   case round =>
    obtain⟨j,hj,hgg2,rfl,HEX2,HOK2⟩:=hrel;rename World=>wb;obtain⟨f2,htb2,hrl2⟩:=HEX2.o;have HT2:=hY htb2;have HRL2:=hY hrl2;clear htb2 hrl2 HEX2;by_cases hlt2:j<ys.length
    ·obtain⟨a',cap',e,-,hx⟩:=Bp.open6 (HEN.o _ _ HT2.o);injection e with e1 e2 e3
     obtain⟨bq,offq,ha,hbq,g0,g1,g2,g3,g4,g5⟩:=hx j hlt2;obtain rfl:aE=some ⟨bq,offq,none⟩:=e1.trans ha;have HTS:Hid (P9++ys.take (j+1)=(P9++ys.take j)++[ys[j]]):=hY (by rw[List.take_succ_eq_append_getElem hlt2,List.append_assoc]);have hbd:=HEB2.o j hlt2;clear hx e1 e2 e3 ha;generalize ys[j]=xe at *;obtain⟨nd,ky,⟨u0,v0⟩,⟨u1,v1⟩⟩:=xe;simp only at g0 g1 g2 g3 g4 g5;have HBD:=hY hbd;have HRT:=hY fun W2=>Ir nd ky u0 v0 u1 v1 W2
     clear hbd;obtain⟨ok,hok⟩:∃ok,EA ⟨nd,ky,(u0,v0),(u1,v1)⟩=ok:=⟨_,rfl⟩;rw[hok] at HRT;cases ok
     ·have hcd:code=1:=HRM.o.bad (by rw[HL8.o];exact HBD.o hok);subst hcd;clear hok
      go_wp2_with (go_at_call 13;refine(HRT.o _).mono ?_;rintro e w8 ⟨rfl,R8,N8,rfl⟩)
      exact HRET.o _ _ ⟨rfl,rfl,HB.o.gr.trans (HGM.o.trans (HT2.o.gr.trans gw))⟩
     ·have HOK3:Hid (CG (P9++ys.take (j+1))=true):=hY (by rw[HTS.o,Vf,HOK2.o,hok];rfl);have hth:=Mx hok;have hrs:=HRL2.o.set (GI.new HOK2.o) hth;rw[←newT_snoc,←HTS.o] at hrs;simp only at hrs;unfold CF at hth;simp only at hth;obtain⟨⟨h1,h2⟩,h3,h4⟩:=hth;obtain⟨nn,rfl⟩:=Int.eq_ofNat_of_zero_le h1;obtain⟨kk,rfl⟩:=Int.eq_ofNat_of_zero_le h3;have HRS:=hY hrs;have ptr:=Ad.mk HT2.o.rt.lt;have f0:=HT2.o.rt.frozen (o:=nn*256+kk*4);have f1:=HT2.o.rt.frozen (o:=nn*256+kk*4+1);have f22:=HT2.o.rt.frozen (o:=nn*256+kk*4+2);have f3:=HT2.o.rt.frozen (o:=nn*256+kk*4+3);obtain⟨t0,t1,t2,t3⟩:=HT2.o.rt.cells (n:=nn) (k:=kk) (by omega) (by omega);clear hok hrs
      go_upto_region 36 with (go_at_call 13;refine(HRT.o _).mono ?_;rintro e w8 ⟨rfl,R8,N8,rfl⟩)
      refine AY 10 Tryz.mixed (by kernel_rfl) (by kernel_rfl) ?_
      iterate 10
       apply Ch.val
       focus
        rintro w1 u ⟨R1,n1,rfl⟩ hF;simp[AR,AU.more,Oper.deps,Region.binds,List.filter_cons,World.more_drew] at hF;simp[AL,Oper.deps,Region.binds,List.filter_cons,Region.dstOf,AU.at,Act.put,World.more_drew];go_wp2;exact⟨gw,rfl,_,_,rfl,rfl,rfl⟩
      rintro u w1 ⟨R1,n1,rfl⟩ hF;clear hF;simp[AL,Region.dstOf,AU.at,Act.put,List.range_succ,World.more_drew];go_wp2
      go_roundg (ys.length-(j+1))
      case measure=>omega
      case rel=>exact⟨j+1,by omega,by omega,by go_num,hY ⟨_,GQ.grew (GQ.set HT2.o (n:=nn) (k:=kk) (by omega) (by omega) u0 v0 u1 v1) gw,HRS.o⟩,HOK3⟩
    ·obtain rfl:j=ys.length:=by omega
     rw[List.take_length] at HOK2 HRL2;go_wp2
     go_roundg (lc2.length-(k+1))
     case measure=>omega
     case rel=>exact⟨k+1,by omega,by omega,by go_num,hY ⟨_,HT2.o.grew gw,by rw[HET.o];exact HRL2.o⟩,hY (by rw[HET.o];exact HOK2.o)⟩
  ·obtain rfl:k=lc2.length:=by omega
   rw[HLC2.o,List.take_length] at HOK HRL
   go_upto_if 159 with fail
   iterate 4 go_step
   refine HNX.o wm _ _ ⟨ep2,pl2,ao2,no2,co2,ag2,ng2,cg2,ae2,ne2,ce2,ax2,nx2,cx2,ap2,np2,cp2⟩ code wm.heap.size B f HGM.o (HT.o.gr.trans gw) ?_ rfl rfl rfl HB9.o HRM.o (Nat.le_refl _) (HT.o.rt.grew gw) HRL.o HOK.o;exact⟨rfl,rfl,rfl,rfl,rfl⟩
structure Want (w2 Wp W:World) (N:Nat) (cs:Array Value):Prop where
 g:AA w2 W
 lo:w2.heap.size≤N
 k:A7 N Wp W
 b:W.heap[N]? = some (.cells cs 42)
theorem Want.grew{w2 Wp W W':World}{N:Nat}{cs:Array Value}(h:Want w2 Wp W N cs)(q:AA W W'): Want w2 Wp W' N cs:=⟨h.g.trans q,h.lo,h.k.trans (A7.ofGrew q),AC q h.b⟩
def Ep{α:Type}(w2 Wp:World)(t:TypeId)(k:Nat)(enc:α→List Value)(W:World)(v:Value)(l:List α): Prop:=OwnAt w2.heap.size t k enc W v l∧∀q,v.ownBlock=some q→Wp.heap.size≤q
theorem Ep.grew{α:Type}{w2 Wp W W':World}{t:TypeId}{k:Nat}{enc:α→List Value}{v:Value}{l:List α}(h:Ep w2 Wp t k enc W v l)(q:AA W W'): Ep w2 Wp t k enc W' v l:=⟨h.1.grew q,h.2⟩
theorem Ep.nil{α:Type}{w2 Wp W:World}{t:TypeId}{k:Nat}{enc:α→List Value}: Ep w2 Wp t k enc W (.slice none 0 0) ([]:List α):=⟨OwnAt.nil _,fun q h=>by cases h⟩
theorem Want.add{α:Type}{w2 Wp W W':World}{N o:Nat}{cs:Array Value}{t:TypeId}{k:Nat}{enc:α→List Value}{v v':Value}{l l':List α}(h:Want w2 Wp W N cs)(ho:Ep w2 Wp t k enc W v l)(hne:42≠t)(hW:Wp.heap.size≤W.heap.size)(hA:Ap w2 t k enc W v l' v' W'):
  Want w2 Wp (W'.setCell ⟨N,o,none⟩ v') N (cs.setIfInBounds o v')∧Ep w2 Wp t k enc (W'.setCell ⟨N,o,none⟩ v') v' l':=by
 obtain⟨q1,q2,q3⟩:=RH (o:=o) ho.1 h.b h.lo hne hA;obtain⟨a1,a2,a3,a4,a5⟩:=hA;refine⟨⟨q1,h.lo,⟨?_,fun q hq hn=>?_⟩,q2⟩,q3,fun q hq=>?_⟩
 ·rw[World.size_setCell];exact Nat.le_trans h.k.1 a3
 ·rw[AQ (fun e=>hn e.symm),a4 q (Nat.lt_of_lt_of_le hq hW) fun e=>?_]
  ·exact h.k.2 q hq hn
  ·exact absurd (ho.2 q e) (by omega)
 ·rcases a5 q hq with e|e
  ·exact ho.2 q e
  ·exact Nat.le_trans hW e
theorem Want.other{α β:Type}{w2 Wp W W':World}{N o:Nat}{cs:Array Value}{t t2:TypeId}{k k2 base:Nat}{enc:α→List Value}{enc2:β→List Value}{v v' u:Value}{l l':List α}{m:List β}(h:Want w2 Wp W N cs)(ho:Ep w2 Wp t k enc W v l)(hA:Ap w2 t k enc W v l' v' W')(hu:OwnAt base t2 k2 enc2 W u m)(hne:t2≠t)(hn2:t2≠42): OwnAt base t2 k2 enc2 (W'.setCell ⟨N,o,none⟩ v') u m :=
 OwnAt.same hu fun q hq=>by
  obtain⟨-,c,hc⟩:=OwnAt.block hu hq;have e1:N≠q:=fun e=>OwnAt.other hu h.b (fun e2=>hn2 e2.symm) (by rw[e];exact hq)
  rw[AQ e1,hA.2.2.2.1 q (AB hc) (OwnAt.other ho.1 hc hne)]
theorem Ep.other{α β:Type}{w2 Wp W W':World}{N o:Nat}{cs:Array Value}{t t2:TypeId}{k k2:Nat}{enc:α→List Value}{enc2:β→List Value}{v v' u:Value}{l l':List α}{m:List β}(hu:Ep w2 Wp t2 k2 enc2 W u m)(h:Want w2 Wp W N cs)(ho:Ep w2 Wp t k enc W v l)(hA:Ap w2 t k enc W v l' v' W')(hne:t2≠t)(hn2:t2≠42): Ep w2 Wp t2 k2 enc2 (W'.setCell ⟨N,o,none⟩ v') u m :=
 ⟨h.other ho hA hu.1 hne hn2,hu.2⟩
theorem Vh{α:Type}{k:Nat}{enc:α→List Value}{W W':World}{v:Value}{l:List α}{N:Nat}{cs:Array Value}{t:TypeId}(h:AX k enc W v l)(hk:A7 N W W')(hb:W.heap[N]? = some (.cells cs t))(h7:cs.size=7)(hk8:8≤k)(henc:∀x,(enc x).length=k): AX k enc W' v l:=by
 obtain⟨a,cap,rfl,hm,hx⟩:=h;refine⟨a,cap,rfl,hm,fun hne=>?_⟩;obtain⟨q,off,rfl,hc⟩:=hx hne
 have hq:q≠N:=by
  rintro rfl;obtain⟨x,l',rfl⟩:=List.exists_cons_of_ne_nil hne;have hl:7<(enc x).length:=by rw[henc];exact hk8
  have h1:=hc 0 x rfl 7 (enc x)[7] (List.getElem?_eq_getElem hl);rw[cell_of hb] at h1;have h2:=(Array.getElem?_eq_some_iff.1 h1).1;rw[h7] at h2;omega
 refine⟨q,off,rfl,fun i x hi j u hu=>?_⟩;have h1:=hc i x hi j u hu;have h2:=World.block_lt_of_cell? W _ h1;unfold World.cell? at h1 ⊢;simp only at h1 h2 ⊢;rw[hk.2 q h2 hq];exact h1
end Go.Proofs.YtgebkpgilgppgaaGreat
