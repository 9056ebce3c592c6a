import Derived.Test.YtipgfjihdglocaaGreatCq43
import Derived.Test.YtipgfjihdglocaaGreatCq33
set_option linter.unusedSimpArgs false
set_option linter.unusedVariables false
set_option maxRecDepth 100000
set_option maxHeartbeats 64000000
namespace Go.Proofs.YtipgfjihdglocaaGreat
open Go.RowKit Ga
def MakePlanPost(w:World)(ep pp:Int)(pm:Gr.Mf)(g:List Gr.Nd)(os:List Int)(xs:List Gr.Ln)(es:List Tab.En)(r:Int×Nat×List Gr.Nd)(p:List Gr.Stp)(e:Ending)(w':World): Prop :=
 (newOk es=false→e = .returned ZMF∧Grew w w') ∧
 (newOk es=true→r.1≠0→e = .returned (.tuple #[.agg #[.int .i64 0,.int .i64 0,.slice none 0 0,.slice none 0 0,.slice none 0 0,.slice none 0 0,.slice none 0 0],.int .i64 r.1])∧Grew w w') ∧
 (newOk es=true→r.1=0→∃l9,l9.Perm r.2.2∧MakeOut w ep pp pm g os xs (remL (Tab.newT es) p) l9 (p.map Gr.cleanS) e w')
theorem remap_zero{w0 W:World}{t b n k:Nat}{l9:List Gr.Nd}{m:List Tab.En}{p:List Gr.Stp}{e:Ending}{w':World}(h:RemapPost ((0,k,l9):Int×Nat×List Gr.Nd) w0 W t b n m p e w'): Grew w0 w'∧Keep b W w'∧TableAt w' t b n (remL m p)∧∃v lc l',e = .returned (.tuple #[v,.int .i64 0,.int .i64 0])∧NodesOwn W.heap.size w' v lc∧NodesIn W.heap.size w' lc l'∧l'.Perm l9∧(l'.Pairwise fun a b=>a.id≤b.id)∧Small l':=by
 obtain⟨g,hk,⟨h1,-⟩|⟨-,ht,v,lc,l',he,h2⟩⟩:=h
 ·exact absurd rfl h1
 ·exact⟨g,hk,ht,v,lc,l',he,h2⟩
theorem remap_not{r:Int×Nat×List Gr.Nd}{w0 W:World}{t b n:Nat}{m:List Tab.En}{p:List Gr.Stp}{e:Ending}{w':World}(hr:r.1≠0)(h:RemapPost r w0 W t b n m p e w'): e = .returned (.tuple #[.slice none 0 0,.int .i64 (r.2.1:Int),.int .i64 r.1])∧Grew w0 w'∧Keep b W w':=by
 obtain⟨g,hk,⟨-,h2⟩|⟨h1,-⟩⟩:=h
 ·exact⟨h2,g,hk⟩
 ·exact absurd h1 hr
theorem make_both(x b n:Nat)(g:List Gr.Nd)(ep:Int)(m:List (Who×AkC))(f:Who→AkP)(c:MfC)(pm:Gr.Mf)(vp:Value)(p:List Gr.Stp)(w:World)(h:GatherAt w x b n g ep m)(hn:n≤1000)(hml:m.length=(tasksOf g).length)(hf:AllCame w g m f)(hc:MfIs w c pm)(hpo:pm.graph.Pairwise fun a b=>a.id<b.id)(hps:Small pm.graph)(hpl:pm.graph.length≤19)
  (hu:StepsAt w vp p) (hp9:p.length≤100) (hpm:∀s∈p,s.nd.frm.length≤100∧s.nd.prog.length≤1000) (hpn:0≤pm.plans∧pm.plans≤1000000) (r:Int×Nat×List Gr.Nd) (hr:planE g p=r) (pq:Int) (hpq:pm.plans+(if p=[] then 0 else 1)=pq) :
  Calls Tryz.prog 113 #[.pointer (some ⟨x,0,none⟩),.agg #[.int .i64 c.epoch,.int .i64 c.plans,.slice c.ao c.no c.co,.slice c.ag c.ng c.cg,.slice c.ae c.ne c.ce,.slice c.ax c.nx c.cx,.slice c.ap c.np c.cp],vp] w (MakePlanPost w ep pq pm g (offsG g f (tasksOf g)) (outG g f (tasksOf g)) (entG g f (tasksOf g)) r p):=by
 have HH:=hY h;have HMI:=hY fun W (q:Grew w W)=>missing_any x b n g ep m W (h.grew q) hn
 rw[hml,Int.sub_self] at HMI;have HGA:=hY fun W (q:Grew w W)=>gathered_any x b n g ep m f W (h.grew q) (hf.grew q)
 have HC:=hY hc;have hes:=entG_le hf;have htl:=tasksOf_len g fun y hy=>(gather_par h y hy).2
 have hl8:=h.len;obtain⟨v,hx,hv⟩:=h.cells;have hng:Gr.normG g=g:=(Gr.norm_unique (List.Perm.refl g) (h.so.imp fun q=>by omega) h.right.ids h.right.r7).symm;have HNO:=hY fun W (q:Grew w W)=>normO_any v g W (hv.grew q) h.small h.right
 rw[hng] at HNO;have HSA:=hY fun W (q:Grew w W)=>same_strict _ _ pm.graph g W (hc.g.grew q) (hv.grew q) hps hpl hpo h.small (by have:=h.len;omega) h.so
 obtain⟨av,cv,rfl,-,-⟩:=hv.openC;have x0:=cell_of (o:=0) hx;simp at x0;have px:=Pre.mk (heap_lt hx);obtain⟨pe,pp,ao,co,ag,cg,ae,ce,axx,cxx,ap,cp,rfl⟩:=hc.lit;have HPE:Hid (pm.epoch=pe):=hY hc.epoch;have HPP:Hid (pm.plans=pp):=hY hc.plans;generalize offsG g f (tasksOf g)=os at *;generalize outG g f (tasksOf g)=xs at *;generalize entG g f (tasksOf g)=es at *;have hgs:=h.small;have HUP:=hY hu;obtain⟨apl,cpl,rfl,-,-⟩:=hu.openC;have HPQ:=hY hpq;have HRR:=hY hr;have HPM:=hY hpm;have HV9:=hY fun W (q:Grew w W)=>hv.grew q
 have hr9:=h.right;have hx0:=x0;have hxl:=heap_lt hx;have HR9:=hY hr9;have HX0:=hY hx0;have HXL:=hY hxl;clear h hn hml hf hc hx hv hpo hps hpl hng hu hr hpm hr9 hx0 hxl hpq;show Calls Tryz.prog _ #[.pointer (some ⟨x,0,none⟩),.agg #[.int .i64 pe,.int .i64 pp,.slice ao pm.offs.length co,.slice ag pm.graph.length cg,.slice ae pm.ents.length ce,.slice axx pm.out.length cxx,.slice ap pm.plan.length cp],.slice apl p.length cpl] w _;go_enter Tryz.func113,Tryz.ntmps113
 go_wp2_with (first
  | (go_at_call 74;refine(HMI.o _ gw).mono ?_;rintro e w1 ⟨rfl,R1,n1,rfl⟩)
  | fail)
 refine(HGA.o _ gw).mono ?_;rintro e w2 ⟨ao2,co2,ax2,cx2,tv,code,rfl,hO,hX,hg2,hcase⟩;have HO:=hY hO;have HX:=hY hX;have hP2:w2.heap[w.heap.size]? = some (.cells #[.int .i64 pe,.int .i64 pp,.slice ao pm.offs.length co,.slice ag pm.graph.length cg,.slice ae pm.ents.length ce,.slice axx pm.out.length cxx,.slice ap pm.plan.length cp] 47):=grew_heap hg2 (grew_heap gw (heap_new_at w _ _ rfl));have hZ2:w2.heap[w.heap.size+1]? = some (.cells #[.int .i64 0,.int .i64 0,.slice none 0 0,.slice none 0 0,.slice none 0 0,.slice none 0 0,.slice none 0 0] 47):=grew_heap hg2 (grew_heap gw (heap_new_at _ _ _ (by simp[World.size_alloc])));have hsz:=hg2.below.size;simp only[World.more_size,World.size_alloc] at hsz;have HGW:Hid (Grew w w2):=hY (Grew.trans gw hg2);have HP2:=hY hP2;have HZ2:=hY hZ2;have hlow:w.heap.size+2≤(((w.alloc (.cells #[.int .i64 pe,.int .i64 pp,.slice ao pm.offs.length co,.slice ag pm.graph.length cg,.slice ae pm.ents.length ce,.slice axx pm.out.length cxx,.slice ap pm.plan.length cp] 47)).alloc (.cells #[.int .i64 0,.int .i64 0,.slice none 0 0,.slice none 0 0,.slice none 0 0,.slice none 0 0,.slice none 0 0] 47)).more R1 n1).heap.size:=by simp only[World.more_size,World.size_alloc];omega
 have HO2:=hY (OwnAt.low HO.o hlow);have HX2:=hY (OwnAt.low HX.o hlow);have hsz2:w.heap.size+2≤w2.heap.size:=by omega
 clear hO hX hg2 hsz hlow HO HX;have pc0:=cell_of (o:=0) hP2;have pc1:=cell_of (o:=1) hP2;have pc2:=cell_of (o:=2) hP2;have pc3:=cell_of (o:=3) hP2;have pc4:=cell_of (o:=4) hP2;have pc5:=cell_of (o:=5) hP2;have pc6:=cell_of (o:=6) hP2;have z0:=cell_of (o:=0) hZ2;have z1:=cell_of (o:=1) hZ2;have z2:=cell_of (o:=2) hZ2;have z3:=cell_of (o:=3) hZ2;have z4:=cell_of (o:=4) hZ2;have z5:=cell_of (o:=5) hZ2;have z6:=cell_of (o:=6) hZ2;simp at pc0 pc1 pc2 pc3 pc4 pc5 pc6 z0 z1 z2 z3 z4 z5 z6;have pp4:=Pre.mk (heap_lt hP2);have pp6:=Pre.mk (heap_lt hZ2);have f0:=frozen_of (o:=0) hZ2;have f1:=frozen_of (o:=1) hZ2;have f2:=frozen_of (o:=2) hZ2;have f3:=frozen_of (o:=3) hZ2;have f4:=frozen_of (o:=4) hZ2;have f5:=frozen_of (o:=5) hZ2;have f6:=frozen_of (o:=6) hZ2;have x02:=grew_cellS HGW.o x0;have px2:=Pre.ofCell x02;clear hP2 hZ2;rcases hcase with ⟨hok,rfl,tt,bt,rfl,hT,ht1,ht2⟩|⟨hok,rfl,rfl⟩
 case inr =>
  have HOK:=hY hok;clear hok
  go_wp2_with fail
  refine bodyPost_ret (v:=ZMF) (by simp[results,Tryz.results113,go_sem,ZMF,pp6,z0,z1,z2,z3,z4,z5,z6]) rfl ?_;refine⟨fun _=>⟨rfl,?_⟩,fun q=>absurd (HOK.o.symm.trans q) (by decide),fun q=>absurd (HOK.o.symm.trans q) (by decide)⟩
  repeat (first|with_reducible exact HGW.o|with_reducible apply Grew.more|with_reducible apply Grew.alloc|refine Grew.set ?_ (by omega) _)
 have HOK:=hY hok;have HT:=hY hT;clear hok hT;have HML:Hid ((Tab.newT es).length≤100000):=hY (Nat.le_trans (newT_le es) (by omega));by_cases hp0:p=[]
 case pos =>
  have hrr:=HRR.o;subst hp0;unfold planE at hrr;rw[if_pos rfl] at hrr;subst hrr;have hpq:=HPQ.o;rw[if_pos rfl,HPP.o,Int.add_zero] at hpq;subst hpq
  go_upto_if 42 with fail
  iterate 4 go_step
  refine Code.wp_mono (bodyPost_mono fun e w' h=>⟨fun q=>absurd (q.symm.trans HOK.o) (by decide),fun _ q=>absurd rfl q,fun _ _=>⟨g,List.Perm.refl _,h⟩⟩) (make_tail w _ x w.heap.size (w.heap.size+1) w2.heap.size tt bt es.length _ (.slice av g.length cv) (.slice av g.length cv) ep pp pe ⟨pe,pp,ao,pm.offs.length,co,ag,pm.graph.length,cg,ae,pm.ents.length,ce,axx,pm.out.length,cxx,ap,pm.plan.length,cp⟩ pm g os xs [] (Tab.newT es) g ao2 co2 ax2 cx2 none 0 [] ?_ HPE.o HR9.o hgs (fun s hs=>by cases hs) HML.o HSA.o);exact⟨rfl,rfl,rfl,rfl,rfl,rfl,rfl,HGW.o.trans gw,grew_heap gw HP2.o,grew_heap gw HZ2.o,grew_heap gw (heap_new_at w2 (.cells #[.int .i64 ep,.int .i64 pp,.slice ao2 os.length co2,.slice none 0 0,.slice none 0 0,.slice ax2 xs.length cx2,.slice none 0 0] 47) _ rfl),by omega,by omega,by omega,by omega,by omega,HX0.o,HXL.o,OwnAt.grew (OwnAt.low HO2.o (by omega)) gw,OwnAt.grew (OwnAt.low HX2.o (by omega)) gw,OwnAt.nil _,trivial,HT.o.grew gw,HV9.o _ (HGW.o.trans gw)⟩
 have hrr:=HRR.o;unfold planE at hrr;rw[if_neg hp0] at hrr;have hp1:1≤p.length:=by have:=List.length_pos_iff.2 hp0;omega
 have HRR:=hY hrr;have HP0:=hY hp0;have hpq:=HPQ.o;rw[if_neg hp0,HPP.o] at hpq;subst hpq;clear hrr hp0;have hbt:w.heap.size≤bt:=Nat.le_trans (by simp only[World.more_size,World.size_alloc];omega) ht2;have HRA:=hY fun W2 (q:Grew w2 W2)=>remapApply_any w W2 tt bt es.length _ (HT.o.grew q) (OkT.new HOK.o) (HGW.o.trans q) hbt _ _ g p (HV9.o W2 (HGW.o.trans q)) hgs HUP.o fun s hs=>⟨Nat.le_trans (HPM.o s hs).1 (by decide),(HPM.o s hs).2⟩
 rw[HRR.o] at HRA;have HKB:Hid (∀(W2 W5:World),Grew w2 W2→Keep bt W2 W5→∀(Z:Nat) (cs:Array Value) (t:TypeId),w2.heap[Z]? = some (.cells cs t)→W5.heap[Z]? = some (.cells cs t)):=hY (fun W2 W5 q hk Z cs t hc=>Keep.cells hk (grew_heap q hc) (TabAt.nocells (HT.o.2.grew q)));obtain⟨r1,rk,l9⟩:=r;by_cases hr0:r1=0
 case neg =>
  have HRA2:=hY fun W2 (q:Grew w2 W2)=>(HRA.o W2 q).mono fun e w' h=>remap_not (r:=(r1,rk,l9)) hr0 h
  simp only at HRA2;have hb2:(r1 != 0)=true:=by rw[bne_iff_ne];exact hr0
  have HR0:=hY hr0;clear HRA hr0
  go_wp2_with (go_at_call 160;((with_reducible refine Calls.mono (HRA2.o _ ?_) ?_));(focus(exact gw));rintro e5 w5 ⟨rfl,hg5,hk5⟩;(obtain⟨y0,y1,y2,y3,y4,y5,y6,yf,yp⟩:=seven (HKB.o _ _ gw hk5 _ _ _ HZ2.o));(have g0:=yf 0);(have g1:=yf 1);(have g2:=yf 2);(have g3:=yf 3);(have g4:=yf 4);(have g5:=yf 5);(have g6:=yf 6);(have HG5:=hY hg5);clear hg5 hk5 yf)
  refine bodyPost_ret (v:=.tuple #[.agg #[.int .i64 0,.int .i64 0,.slice none 0 0,.slice none 0 0,.slice none 0 0,.slice none 0 0,.slice none 0 0],.int .i64 r1]) (by simp[results,Tryz.results113,go_sem,yp,y0,y1,y2,y3,y4,y5,y6]) rfl ?_;refine⟨fun q=>absurd (q.symm.trans HOK.o) (by decide),fun _ _=>⟨rfl,?_⟩,fun _ q=>absurd q HR0.o⟩
  repeat (first|with_reducible exact HG5.o|with_reducible apply Grew.more|with_reducible apply Grew.alloc|refine Grew.set ?_ (by omega) _)
 subst hr0;have HRA2:=hY fun W2 (q:Grew w2 W2)=>(HRA.o W2 q).mono fun e w' h=>remap_zero h
 clear HRA;have hppb:0≤pp∧pp≤1000000:=by rw[←HPP.o];exact hpn
 go_wp2_with (go_at_call 160;((with_reducible refine Calls.mono (HRA2.o _ ?_) ?_));(focus(exact gw));rintro e5 w5 ⟨hg5,hk5,hT5,v5,lc5,l5,rfl,ho5,hn5,hp5,hs5,hsm5⟩;obtain⟨a5,cp5,rfl⟩:=(OwnAt.rows ho5 encNd_len).len;(have hM5:w5.heap[w2.heap.size]? = some (.cells #[.int .i64 ep,.int .i64 pp,.slice ao2 os.length co2,.slice none 0 0,.slice none 0 0,.slice ax2 xs.length cx2,.slice none 0 0] 47):=Keep.cells hk5 (grew_heap gw (heap_new_at w2 _ _ rfl)) (TabAt.nocells (HT.o.2.grew gw)));(have m1:w5.cell? ⟨w2.heap.size,1,none⟩=some (.int .i64 pp):=(cell_of hM5).trans rfl);(have f1':=frozen_of (o:=1) hM5);(have pM5:=Pre.mk (heap_lt hM5));(have hP5:=HKB.o _ _ gw hk5 _ _ _ HP2.o);(have hZ5:=HKB.o _ _ gw hk5 _ _ _ HZ2.o);(have hO5:=OwnAt.keepC ((OwnAt.low HO2.o (base':=w.heap.size) (by omega)).grew gw) hk5 (TabAt.nocells (HT.o.2.grew gw)));(have hX5:=OwnAt.keepC ((OwnAt.low HX2.o (base':=w.heap.size) (by omega)).grew gw) hk5 (TabAt.nocells (HT.o.2.grew gw)));(have ho5':=OwnAt.low ho5 (base':=w.heap.size) (by simp[World.size_alloc];omega));(have hn5':=NodesIn.low (base':=w.heap.size) hn5 (by simp[World.size_alloc];omega));(have HST:=hY (Mk20.start (q:=pp+1) (pc:=⟨pe,pp,ao,pm.offs.length,co,ag,pm.graph.length,cg,ae,pm.ents.length,ce,axx,pm.out.length,cxx,ap,pm.plan.length,cp⟩) hg5 hP5 hZ5 hM5 (by omega) (by omega) (by omega) (by omega) (by omega) hO5 hX5 hT5 ⟨a5,cp5,lc5,by rw[Rel.len hn5],ho5',hn5'⟩));(have HP5:=hY hp5);(have HSM5:=hY hsm5);clear hg5 hk5 hT5 ho5 hn5 hp5 hs5 hsm5 hM5 hP5 hZ5 hO5 hX5 ho5' hn5')
 go_loopg [61] p.length (fun gg s61 wr=>∃(k:Nat) (vp':Value) (lcP:List StC),k≤p.length∧p.length-k≤gg∧s61 = .int .i64 (k:Int)∧Hid (Mk20 w wr w.heap.size (w.heap.size+1) w2.heap.size tt bt es.length (.slice a5 lc5.length cp5) ep (pp+1) pe ⟨pe,pp,ao,pm.offs.length,co,ag,pm.graph.length,cg,ae,pm.ents.length,ce,axx,pm.out.length,cxx,ap,pm.plan.length,cp⟩ os xs ((p.take k).map Gr.cleanS) (remL (Tab.newT es) p) l5 ao2 co2 ax2 cx2 vp' lcP))
 case atStart=>exact⟨0,_,_,by omega,by omega,rfl,hY (HST.o.grew gw)⟩
 case round =>
  obtain⟨k,vp',lcP,hk,hgg,rfl,HS⟩:=hrel;rename World=>wa;obtain⟨a7,c7s,rfl⟩:=(OwnAt.rows HS.o.po encSt_len).len;by_cases hlt:k<p.length
  ·obtain⟨a',cap',e,-,hx⟩:=(HUP.o.grew HS.o.g).openC;cases e;obtain⟨bq,off,c,rfl,hbq,hn,c0,c1,c2,c3,c4,c5,c6,c7,c8,c9,c10,c11,c12,c13,c14⟩:=hx k hlt;have HCL:=hY fun W2 (g:Grew wa W2)=>clean49_any c p[k] W2 (hn.grew g) ⟨Nat.le_trans (HPM.o _ (List.getElem_mem hlt)).1 (by decide),(HPM.o _ (List.getElem_mem hlt)).2⟩
   have HTK:Hid ((p.take (k+1)).map Gr.cleanS=(p.take k).map Gr.cleanS++[Gr.cleanS p[k]]):=hY (by rw[List.take_succ_eq_append_getElem hlt,List.map_append];rfl);have hll:=Rel.len HS.o.pi;rw[List.length_map,List.length_take] at hll;have hlc:lcP.length≤100:=by omega
   have m6:wa.cell? ⟨w2.heap.size,6,none⟩=some (.slice a7 lcP.length c7s):=(cell_of HS.o.mb).trans rfl;have pm6:=Pre.mk (heap_lt HS.o.mb);clear hx hn hll;generalize p[k]=st at *;obtain⟨kd,⟨id,kind,af,nf,cf,apr,np,cpr,par,r0,q1,q2,q3,q4,q5,q6,q7⟩,rs⟩:=c;simp only at c0 c1 c2 c3 c4 c5 c6 c7 c8 c9 c10 c11 c12 c13 c14 HCL
   go_upto_region 18 with fail
   refine wp_region_noPanic ?_
   go_region_law (first
    | (go_simp;go_at_call 105;((with_reducible refine Calls.mono (HCL.o _ ?_) ?_));(focus(exact gw));rintro e6 w6 ⟨d6,rfl,hs6,ho6,R6,n6,rfl⟩;(try simp only[World.more_drew] at hs6 ho6);(have HS6:=hY hs6);(have HO6:=hY ho6);clear hs6 ho6)
    | (refine step_ownK (w0:=w) (v:=.slice a7 lcP.length c7s) rfl (.tmp 66) (.tmp 69) 34 _ _ _ _ [d6] rfl Tryz.underlying34 infoStep rfl (by decide) encSt_len encSt_one rfl (OwnAt.grew HS.o.po gw) (HS.o.g.trans gw) rfl (st_at _ _ _ _ rfl (by simp[go_sem])) (by simp;omega) (by decide) (by simp) ?_;intro v8 W8 hA;(obtain⟨a8,c8,hv8⟩:=(OwnAt.rows hA.2.1 encSt_len).len);(obtain⟨n8,hn8⟩:∃n8,(lcP++([d6]:List StC)).length=n8:=⟨_,rfl⟩);(rw[hn8] at hv8);(subst hv8);(clear hn8);(have hM8:=own_cells (OwnAt.grew HS.o.po gw) (grew_heap gw HS.o.mb) (by decide) hA);(obtain⟨u8,hu8⟩:∃u,W8.cell? ⟨w2.heap.size,6,none⟩=some u:=⟨_,(cell_of hM8).trans rfl⟩);(have f8:=frozen_of (o:=6) hM8);(have p8:=Pre.mk (heap_lt hM8));(have HA:=hY hA);clear hA hM8))
   all_goals
    refine NoPanic.normal ?_;go_wp2
    go_roundg (p.length-(k+1))
    case measure=>omega
    case rel =>
     obtain⟨Wp,hA9,hW9⟩:∃Wp,Appended w 69 15 encSt Wp (.slice a7 lcP.length c7s) (lcP++[d6]) (.slice a8 n8 c8) W8∧Grew wa Wp∧StepIs Wp d6 (Gr.cleanS st)∧OwnsNd w.heap.size Wp d6.c (Gr.cleanS st).nd:=by
      refine⟨_,HA.o,gw,HS6.o.grew gw,OwnsNd.low (OwnsNd.grew HO6.o gw) ?_⟩;exact Grew.le (HS.o.g.trans gw)
     have hres:=Mk20.addP (HS.o.grew hW9.1) hA9 hW9.2.1 hW9.2.2;rw[←HTK.o] at hres;exact⟨k+1,_,lcP++[d6],by omega,by omega,by go_num,hY hres⟩
  ·obtain rfl:k=p.length:=by omega
   have hs:=HS.o;rw[List.take_length] at hs;have hl:lcP.length=(p.map Gr.cleanS).length:=Rel.len hs.pi;rw[hl] at hs;have HS9:=hY hs
   have hr5:Gr.RightR l5:=by
    have h0:=applyE_ok (l:=g) (p:=p) (by rw[HRR.o]);rw[HRR.o] at h0;exact(checkR_right h0).perm HP5.o.symm
   have HR5:=hY hr5;clear hs hl hr5
   go_upto_if 62 with fail
   iterate 4 go_step
   refine Code.wp_mono (bodyPost_mono fun e w' h=>⟨fun q=>absurd (q.symm.trans HOK.o) (by decide),fun _ q=>absurd rfl q,fun _ _=>⟨l5,HP5.o,h⟩⟩) (make_tail w _ x w.heap.size (w.heap.size+1) w2.heap.size tt bt es.length _ (.slice av g.length cv) (.slice a5 lc5.length cp5) ep (pp+1) pe ⟨pe,pp,ao,pm.offs.length,co,ag,pm.graph.length,cg,ae,pm.ents.length,ce,axx,pm.out.length,cxx,ap,pm.plan.length,cp⟩ pm g os xs (p.map Gr.cleanS) (remL (Tab.newT es) p) l5 ao2 co2 ax2 cx2 a7 c7s lcP ?_ HPE.o HR5.o HSM5.o (fun s hs=>?_) (Nat.le_trans (remL_len _ _) HML.o) HSA.o)
   ·exact Mk20.pre (Mk20.grew HS9.o gw) rfl rfl rfl rfl rfl rfl rfl HX0.o HXL.o
   obtain⟨y,hy,rfl⟩:=List.mem_map.1 hs;exact⟨Nat.le_trans (cleanS_len y).1 (HPM.o y hy).1,Nat.le_trans (cleanS_len y).2 (HPM.o y hy).2⟩
end Go.Proofs.YtipgfjihdglocaaGreat
