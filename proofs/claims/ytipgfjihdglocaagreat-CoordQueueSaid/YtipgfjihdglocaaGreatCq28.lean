import Derived.Test.YtipgfjihdglocaaGreatCq21
import Derived.Test.YtipgfjihdglocaaGreatCq10
import Derived.Test.YtipgfjihdglocaaGreatCq11
import Derived.Test.YtipgfjihdglocaaGreatCq15
set_option linter.unusedSimpArgs false
set_option linter.unusedVariables false
set_option maxRecDepth 100000
set_option maxHeartbeats 64000000
namespace Go.Proofs.YtipgfjihdglocaaGreat
open Go.RowKit Ga
theorem norm_len{g:List Gr.Nd}(h:Gr.RightR g): (Gr.normG g).length=g.length:=(Gr.normG_perm h.ids h.r7).length_eq
theorem NodesIn.grow{base:Nat}{w w':World}{lc:List NdC}{l:List Gr.Nd}(h:NodesIn base w lc l)(g:Grew w w'): NodesIn base w' lc l :=
 Rel.mono (fun _ _ q=>⟨q.1.grew g,⟨OwnAt.grew q.2.1 g,OwnAt.grew q.2.2 g⟩⟩) h
theorem newO_any(v:Value)(g:List Gr.Nd)(ep:Int)(w:World)(hv:NodesAt w v g)(hs:Small g)(hr:Gr.RightR g)(he:1≤ep)(he2:ep≤2147483647): Calls Tryz.prog 48 #[v,.int .i64 ep] w fun e w'=>∃x b,e = .returned (.tuple #[.pointer (some ⟨x,0,none⟩),.int .i64 0])∧(∃v lc,w'.heap[x]? = some (.cells #[v,.int .i64 ep,.map (some b)] 176)∧NodesOwn w.heap.size w' v lc∧NodesIn w.heap.size w' lc (Gr.normG g))∧GatherAt w' x b 0 (Gr.normG g) ep []∧w.heap.size≤x∧w.heap.size≤b∧Grew w w':=by
 have HC:=hY fun W (q:Grew w W)=>check_graph v g W (hv.grew q) hs
 have hck:=checkR_nil hr;rw[hck] at HC;have HN:=hY fun W (q:Grew w W)=>normO_any v g W (hv.grew q) hs hr
 have HRN:=hY (right_norm hr);have HSN:=hY (small_norm hr hs);have hl:=hr.len;rw[←norm_len hr] at hl;obtain⟨a,cap,rfl,hm,-⟩:=hv.openC;clear hv hs hr hck;have hmm:=@run_makeMap Tryz.prog;go_enter Tryz.func48,Tryz.ntmps48
 go_wp2_with (first
  | (go_at_call 7;refine(HC.o _ gw).mono ?_;rintro e w1 ⟨rfl,R1,n1,rfl⟩)
  | (go_at_call 55;refine(HN.o _ gw).mono ?_;rintro e w2 ⟨v2,lc2,rfl,ho2,hi2,R2,n2,rfl⟩;(have hv2:=hi2.at ho2);obtain⟨a2,c2,rfl,-,-⟩:=hv2.openC;(have HV2:=hY hv2);(have HO2:=hY ho2);(have HI2:=hY hi2);clear hv2 ho2 hi2))
 go_ret2;refine⟨_,_,rfl,⟨_,lc2,heap_new_at _ _ _ (by simp[go_sem]),OwnAt.grew (OwnAt.low HO2.o (by simp[World.more_size])) gw,NodesIn.grow (Rel.mono (fun _ _ h=>⟨h.1,⟨OwnAt.low h.2.1 (by simp[World.more_size]),OwnAt.low h.2.2 (by simp[World.more_size])⟩⟩) HI2.o) gw⟩,⟨⟨_,heap_new_at _ _ _ (by simp[go_sem]),HV2.o.grew gw⟩,?_,HSN.o,hl,Gr.normG_sorted g,HRN.o⟩,by omega,by omega,gw⟩;have hm:=(MapAt.made ackS ((w.more R1 n1).more R2 n2)).grew gw;rw[World.more_size,World.more_size] at hm;exact MapAt.grew hm ((Grew.refl _).alloc _)
noncomputable def addR(g:List Gr.Nd)(ep:Int)(m:List (Who×AkC))(c:AkC): Int:=match Gr.nodeOf g c.node with
 | none=>12
 | some n=>if c.ix<0∨n.par≤c.ix then 12 else if c.ep≠ep then 1 else if (mfind m (c.node,c.ix)).isSome then 13 else 0
def AddPost(w0 W:World)(x b n:Nat)(g:List Gr.Nd)(ep:Int)(m:List (Who×AkC))(c:AkC)(e:Ending)(W':World): Prop :=
 e = .returned (.int .i64 (addR g ep m c))∧(addR g ep m c≠0→Grew W W')∧(addR g ep m c=0→GatherAt W' x b (n+1) g ep (((c.node,c.ix),c)::m)∧Grew w0 W'∧Keep b W W')
def foundP(r:Option Gr.Nd): Int:=match r with
 | some n=>n.par
 | none=>0
theorem find_found{r:Option Gr.Nd}{w w':World}{e:Ending}(h:GivesFind r w e w'): ∃c:NdC,e = .returned (.tuple #[.agg #[.int .i64 c.id,.int .i64 c.kind,.slice c.af c.nf c.cf,.slice c.ap c.np c.cp,.int .i64 c.par,.int .i64 c.r0,.int .i64 c.r1,.int .i64 c.r2,.int .i64 c.r3,.int .i64 c.r4,.int .i64 c.r5,.int .i64 c.r6,.int .i64 c.r7],.bool r.isSome])∧c.par=foundP r∧Grew w w':=by
 cases r with
 |none =>
  obtain⟨h1,h2⟩:=h
  exact⟨⟨0,0,none,0,0,none,0,0,0,0,0,0,0,0,0,0,0⟩,h1,rfl,h2⟩
 |some n =>
  obtain⟨c,h1,h2,-,h4⟩:=h;exact⟨c,h1,h2.par.symm,h4⟩
def IsFound(b:Bool)(p:Int)(v:Value)(_:World): Prop:=∃c:NdC,v = .tuple #[.agg #[.int .i64 c.id,.int .i64 c.kind,.slice c.af c.nf c.cf,.slice c.ap c.np c.cp,.int .i64 c.par,.int .i64 c.r0,.int .i64 c.r1,.int .i64 c.r2,.int .i64 c.r3,.int .i64 c.r4,.int .i64 c.r5,.int .i64 c.r6,.int .i64 c.r7],.bool b]∧c.par=p
theorem IsFound.st(b:Bool)(p:Int): ∀v w w',IsFound b p v w→Grew w w'→IsFound b p v w':=fun _ _ _ h _=>h
def IsPar(p:Int)(v:Value)(_:World): Prop:=∃c:NdC,v = .agg #[.int .i64 c.id,.int .i64 c.kind,.slice c.af c.nf c.cf,.slice c.ap c.np c.cp,.int .i64 c.par,.int .i64 c.r0,.int .i64 c.r1,.int .i64 c.r2,.int .i64 c.r3,.int .i64 c.r4,.int .i64 c.r5,.int .i64 c.r6,.int .i64 c.r7]∧c.par=p
theorem IsPar.st(p:Int): ∀v w w',IsPar p v w→Grew w w'→IsPar p v w':=fun _ _ _ h _=>h
theorem grew_cellS{W W':World}{a:Addr}{u:Value}(g:Grew W W')(h:W.cell? a=some u): W'.cell? a=some u:=below_keeps g.below a u h
theorem add_any'(w0 W:World)(x b n:Nat)(g:List Gr.Nd)(ep:Int)(m:List (Who×AkC))(c:AkC)(h:GatherAt W x b n g ep m)(hg:Grew w0 W)(hb:w0.heap.size≤b)(hn:n≤1000)(hw:okWho (c.node,c.ix)):
  Calls Tryz.prog 50 #[.pointer (some ⟨x,0,none⟩),akv c] W (AddPost w0 W x b n g ep m c):=by
 have HH:=hY h;have HG:=hY hg;have HW:=hY hw;obtain⟨v,hx,hv⟩:=h.cells;have HF:=hY fun W2 (q:Grew W W2)=>find_any v g c.node W2 (hv.grew q) h.small
 have HLK:=hY fun W2 (q:Grew W W2)=>(h.map.grew q).lookOk _ hw Tryz.underlying174 AkC.zero (zeroAck W2)
 obtain⟨av,cv,rfl,-,-⟩:=hv.openC;have x0:=cell_of (o:=0) hx;have x1:=cell_of (o:=1) hx;have x2:=cell_of (o:=2) hx;simp at x0 x1 x2;have px:=Pre.mk (heap_lt hx);have HX:=hY hx;clear h hg hw hx hv;obtain⟨nd,ix,ce,ae,ne,cae,ax,nx,cax,off⟩:=c;simp only at HF HLK HW;unfold akv;obtain⟨rq,hrq⟩:∃r,Gr.nodeOf g nd=r:=⟨_,rfl⟩;rw[hrq] at HF;have HRQ:=hY hrq;clear hrq;go_enter Tryz.func50,Tryz.ntmps50
 go_upto_region 4 with fail
 go_cut [5,6] (fun s5 s6 wx=>∃B:Nat,s5 = .pointer (some ⟨B,0,none⟩)∧s6 = .bool rq.isSome∧Grew (W.alloc (.cells #[.int .i64 nd,.int .i64 ix,.int .i64 ce,.slice ae ne cae,.slice ax nx cax,.int .i64 off] 55)) wx∧W.heap.size+1≤B∧wx.cell? ⟨B,4,none⟩=some (.int .i64 (foundP rq)))
 case first =>
  go_region_held3 (fun w'=>w'.cell? ⟨x,0,none⟩=some (.slice av g.length cv)∧w'.cell? ⟨W.heap.size,0,none⟩=some (.int .i64 nd)) ((refine⟨?_,?_⟩<;>simp[go_sem, *])) (first
   | (go_simp;go_at_call 76;refine(HF.o _ gw).mono ?_;rintro e w2 h9;obtain⟨c9,rfl,hc9,R3,n3,rfl⟩:=find_found h9;(have HC9:=hY hc9);clear h9 hc9))
  all_goals
   go_wp2_with fail
   go_meet
   refine⟨_,rfl,rfl,gw,by omega,?_⟩;rw[←HC9.o];exact(cell_of (o:=4) (grew_heap gw (heap_new_at _ _ _ (by simp[go_sem])))).trans rfl
 case rest =>
  obtain⟨B,rfl,rfl,hgw,hB,hpar⟩:=hcut;generalize wc=W5 at *;clear wc;have HGW:=hY (((Grew.refl W).alloc (.cells #[.int .i64 nd,.int .i64 ix,.int .i64 ce,.slice ae ne cae,.slice ax nx cax,.int .i64 off] 55)).trans hgw);have hx5:=grew_heap HGW.o HX.o;have hak:W5.heap[W.heap.size]? = some (.cells #[.int .i64 nd,.int .i64 ix,.int .i64 ce,.slice ae ne cae,.slice ax nx cax,.int .i64 off] 55):=grew_heap hgw (heap_new_at _ _ _ rfl);clear x0 x1 x2 px hgw;have x1:=cell_of (o:=1) hx5;have x2:=cell_of (o:=2) hx5;have a0:=cell_of (o:=0) hak;have a1:=cell_of (o:=1) hak;have a2:=cell_of (o:=2) hak;have a3:=cell_of (o:=3) hak;have a4:=cell_of (o:=4) hak;have a5:=cell_of (o:=5) hak;simp at x1 x2 a0 a1 a2 a3 a4 a5;have px:=Pre.mk (heap_lt hx5);have pa:=Pre.mk (heap_lt hak);have pB:=Pre.ofCell hpar;have HX5:=hY hx5;have HAK:=hY hak;have HPAR:=hY hpar;clear hx5 hak;have HM5:=hY fun W2 (q:Grew W5 W2)=>HLK.o W2 (HGW.o.trans q)
  obtain⟨ac,hac⟩:∃ac,(mfind m (nd,ix)).getD AkC.zero=ac:=⟨_,rfl⟩;obtain⟨bq,hbq⟩:∃bq,(mfind m (nd,ix)).isSome=bq:=⟨_,rfl⟩;rw[hac,hbq] at HM5;obtain⟨d0,d1,d2,d3,d4,d5,d6,d7,d8,d9⟩:=ac;have HBQ:=hY hbq;clear hac hbq;have hl1:=HM5.o ((W5.alloc (.cells #[.int .i64 nd,.int .i64 ix] 178)).drew) gw;have hl2:=fun o=>HM5.o (((W5.alloc (.cells #[.int .i64 nd,.int .i64 ix] 178)).alloc o).drew) gw
  simp only[ackS,whK,akv] at hl1 hl2
  go_upto_region 5 with fail
  go_cut [8,9] (fun s8 s9 wx=>s9 = .bool bq∧Grew (W5.alloc (.cells #[.int .i64 nd,.int .i64 ix] 178)) wx)
  case first =>
   go_region_held3 (fun w'=>w'.cell? ⟨x,2,none⟩=some (.map (some b))∧w'.cell? ⟨W5.heap.size,0,none⟩=some (.int .i64 nd)∧w'.cell? ⟨W5.heap.size,1,none⟩=some (.int .i64 ix)) ((refine⟨?_,?_,?_⟩<;>simp[go_sem, *])) (fail)
   all_goals
    go_wp2_with fail
    go_meet
    exact⟨rfl,gw⟩
  case rest =>
   obtain⟨rfl,hg6⟩:=hcut;have HG6:=hY (((Grew.refl W5).alloc (.cells #[.int .i64 nd,.int .i64 ix] 178)).trans hg6);have hwh:wc.heap[W5.heap.size]? = some (.cells #[.int .i64 nd,.int .i64 ix] 178):=grew_heap hg6 (heap_new_at _ _ _ rfl);have HWH:=hY hwh;generalize wc=W6 at *;clear wc hl1 hl2 hg6 hwh;clear x1 x2 a0 a1 a2 a3 a4 a5 px pa pB hpar;have HG9:=hY (HGW.o.trans HG6.o);have hx6:=grew_heap HG6.o HX5.o;have hak6:=grew_heap HG6.o HAK.o;have hpar:=grew_cellS HG6.o HPAR.o;have x1:=cell_of (o:=1) hx6;have x2:=cell_of (o:=2) hx6;have a0:=cell_of (o:=0) hak6;have a1:=cell_of (o:=1) hak6;have a2:=cell_of (o:=2) hak6;have a3:=cell_of (o:=3) hak6;have a4:=cell_of (o:=4) hak6;have a5:=cell_of (o:=5) hak6;have b0:=cell_of (o:=0) HWH.o;have b1:=cell_of (o:=1) HWH.o;simp at x1 x2 a0 a1 a2 a3 a4 a5 b0 b1;have px:=Pre.mk (heap_lt hx6);have pa:=Pre.mk (heap_lt hak6);have pB:=Pre.ofCell hpar;have pw:=Pre.mk (heap_lt HWH.o);clear hx6 hak6
   cases rq with
   |none =>
    have hR:addR g ep m ⟨nd,ix,ce,ae,ne,cae,ax,nx,cax,off⟩=12:=by unfold addR;simp only;rw[HRQ.o]
    have HR:=hY hR;clear hR;go_wp2;go_ret
    exact⟨by rw[HR.o];rfl,fun _=>HG9.o,fun q=>by rw[HR.o] at q;cases q⟩
   |some y =>
    have hRd:addR g ep m ⟨nd,ix,ce,ae,ne,cae,ax,nx,cax,off⟩=if ix<0∨y.par≤ix then 12 else if ce≠ep then 1 else if bq=true then 13 else 0:=by unfold addR;simp only;rw[HRQ.o,←HBQ.o]
    have hfp:foundP (some y)=y.par:=rfl;rw[hfp] at hpar;generalize y.par=p at *;by_cases h1:ix<0
    ·have HR:=hY (hRd.trans (if_pos (.inl h1)));clear hRd;go_wp2;go_ret;exact⟨by rw[HR.o];rfl,fun _=>HG9.o,fun q=>by rw[HR.o] at q;cases q⟩
    by_cases h2:p≤ix
    ·have HR:=hY (hRd.trans (if_pos (.inr h2)));clear hRd;go_wp2;go_ret;exact⟨by rw[HR.o];rfl,fun _=>HG9.o,fun q=>by rw[HR.o] at q;cases q⟩
    have hRd2:=hRd.trans (if_neg (fun q=>q.elim h1 h2));clear hRd;by_cases h3:ce=ep
    case neg =>
     have HR:=hY (hRd2.trans (if_pos h3));have hb3:(ce != ep)=true:=by simpa using h3
     clear hRd2 h3;go_wp2;refine wp_region_seq 8 Tryz.mixed (by kernel_rfl) (by kernel_rfl) ?_
     iterate 8
      apply Seq.val
      focus
       rintro w1 u ⟨R1,n1,rfl⟩ hF;simp[moreFacts,Fact.more,Oper.deps,Region.binds,List.filter_cons,World.more_drew] at hF;simp[putFacts,Oper.deps,Region.binds,List.filter_cons,Region.dstOf,Fact.at,Act.put,World.more_drew];go_wp2;exact⟨gw,rfl,_,_,rfl,rfl,rfl⟩
     rintro u w1 ⟨R1,n1,rfl⟩ hF;clear hF;simp[putFacts,Region.dstOf,Fact.at,Act.put,List.range_succ,World.more_drew];go_wp2;go_ret;exact⟨by rw[HR.o];rfl,fun _=>HG9.o.trans gw,fun q=>by rw[HR.o] at q;cases q⟩
    subst h3;have hRd3:=hRd2.trans (if_neg (fun q=>q rfl));clear hRd2;cases bq
    case true =>
     have HR:=hY (hRd3.trans (if_pos rfl));clear hRd3;go_wp2;refine wp_region_seq 8 Tryz.mixed (by kernel_rfl) (by kernel_rfl) ?_
     iterate 8
      apply Seq.val
      focus
       rintro w1 u ⟨R1,n1,rfl⟩ hF;simp[moreFacts,Fact.more,Oper.deps,Region.binds,List.filter_cons,World.more_drew] at hF;simp[putFacts,Oper.deps,Region.binds,List.filter_cons,Region.dstOf,Fact.at,Act.put,World.more_drew];go_wp2;exact⟨gw,rfl,_,_,rfl,rfl,rfl⟩
     rintro u w1 ⟨R1,n1,rfl⟩ hF;clear hF;simp[putFacts,Region.dstOf,Fact.at,Act.put,List.range_succ,World.more_drew];go_wp2;go_ret;exact⟨by rw[HR.o];rfl,fun _=>HG9.o.trans gw,fun q=>by rw[HR.o] at q;cases q⟩
    have HR:=hY (hRd3.trans (if_neg (by decide)))
    have HNO:Hid (∀z∈m,z.1≠(nd,ix)):=hY (by
     rcases mfind_cases m (nd,ix) with ⟨v,q1,q2⟩|⟨q1,q2⟩
     ·have:=HBQ.o;rw[q1] at this;cases this
     ·exact q2)
    clear hRd3;go_wp2;refine wp_region_seq 8 Tryz.mixed (by kernel_rfl) (by kernel_rfl) ?_
    iterate 8
     apply Seq.val
     focus
      rintro w1 u ⟨R1,n1,rfl⟩ hF;simp[moreFacts,Fact.more,Oper.deps,Region.binds,List.filter_cons,World.more_drew] at hF;simp[putFacts,Oper.deps,Region.binds,List.filter_cons,Region.dstOf,Fact.at,Act.put,World.more_drew];go_wp2;exact⟨gw,rfl,_,_,rfl,rfl,rfl⟩
    rintro u w1 ⟨R1,n1,rfl⟩ hF;clear hF;simp[putFacts,Region.dstOf,Fact.at,Act.put,List.range_succ,World.more_drew];go_wp2;refine wp_region_seq 6 Tryz.mixed (by kernel_rfl) (by kernel_rfl) ?_
    iterate 6
     apply Seq.val
     focus
      rintro w1 u ⟨R1,n1,rfl⟩ hF;simp[moreFacts,Fact.more,Oper.deps,Region.binds,List.filter_cons,World.more_drew] at hF;simp[putFacts,Oper.deps,Region.binds,List.filter_cons,Region.dstOf,Fact.at,Act.put,World.more_drew];go_wp2;exact⟨gw,rfl,_,_,rfl,rfl,rfl⟩
    rintro u w1 ⟨R1,n1,rfl⟩ hF;clear hF;simp[putFacts,Region.dstOf,Fact.at,Act.put,List.range_succ,World.more_drew];refine wpList_mapPut (S:=ackS) (w0:=w0) (M:=m) rfl (.tmp 64) (.tmp 65) (.tmp 66) 174 rfl Tryz.underlying174 ((HG.o.trans HG9.o).trans gw) hb rfl ((HH.o.grew HG9.o).map.grew gw) (by unfold maxLen;omega) (nd,ix) ⟨nd,ix,ce,ae,ne,cae,ax,nx,cax,off⟩ HW.o HNO.o rfl rfl ?_;intro W7 h7 g7 k7;have H7:=hY h7;have G7:=hY g7;have K7:=hY k7;clear h7 g7 k7;go_wp2;go_ret;refine⟨by rw[HR.o];rfl,fun q=>absurd HR.o q,fun _=>⟨GatherAt.put (HH.o.grew HG9.o |>.grew gw) K7.out H7.o,G7.out,(Keep.ofGrew (HG9.o.trans gw)).trans K7.out⟩⟩
def encAk(c:AkC): List Value:=[.int .i64 c.node,.int .i64 c.ix,.int .i64 c.ep,.slice c.ae c.ne c.ce,.slice c.ax c.nx c.cx,.int .i64 c.off]
abbrev AcksAt(w:World)(v:Value)(l:List AkC): Prop:=RowsAt 6 encAk w v l
theorem AcksAt.open6{w:World}{v:Value}{l:List AkC}(h:AcksAt w v l): ∃a cap,v = .slice a l.length cap∧l.length≤9223372036854775807∧∀i (hi:i<l.length),∃b off,a=some ⟨b,off,none⟩∧Pre b w ∧
  w.cell? ⟨b,off+i*6,none⟩=some (.int .i64 l[i].node)∧w.cell? ⟨b,off+i*6+1,none⟩=some (.int .i64 l[i].ix)∧w.cell? ⟨b,off+i*6+2,none⟩=some (.int .i64 l[i].ep) ∧
  w.cell? ⟨b,off+i*6+3,none⟩=some (.slice l[i].ae l[i].ne l[i].ce)∧w.cell? ⟨b,off+i*6+4,none⟩=some (.slice l[i].ax l[i].nx l[i].cx)∧w.cell? ⟨b,off+i*6+5,none⟩=some (.int .i64 l[i].off):=by
 obtain⟨a,cap,rfl,hm,hx⟩:=h;refine⟨a,cap,rfl,by unfold maxLen at hm;omega,fun i hi=>?_⟩;obtain⟨b,off,rfl,hc⟩:=hx (by intro e;subst e;simp at hi);have hj:=fun j u=>hc i l[i] (List.getElem?_eq_getElem hi) j u
 have h0:=hj 0 _ rfl;exact⟨b,off,rfl,Pre.mk (World.block_lt_of_cell? w _ h0),h0,hj 1 _ rfl,hj 2 _ rfl,hj 3 _ rfl,hj 4 _ rfl,hj 5 _ rfl⟩
theorem GatherAt.keep{W W':World}{x b n b2:Nat}{g:List Gr.Nd}{ep:Int}{m:List (Who×AkC)}(h:GatherAt W x b n g ep m)(hk:Keep b2 W W')(h1:x≠b2)(h2:b≠b2)(hb:∀c t f,W.heap[b2]? ≠ some (.cells c t f)): GatherAt W' x b n g ep m:=by
 obtain⟨v,q1,q2⟩:=h.cells;exact { h with cells:=⟨v,by rw[hk.2 x (heap_lt q1) h1];exact q1,nodes_keep q2 hk hb⟩,map:=h.map.same (hk.2 b h.map.lt h2) }
theorem GatherAt.fresh{W:World}{x b n:Nat}{g:List Gr.Nd}{ep:Int}{m:List (Who×AkC)}(h:GatherAt W x b n g ep m): x<W.heap.size∧b<W.heap.size:=by
 obtain⟨v,q1,-⟩:=h.cells;exact⟨heap_lt q1,h.map.lt⟩
structure AkP where
 ents:List Tab.En
 lines:List Gr.Ln
 off:Int
def AkIs(W:World)(c:AkC)(a:AkP): Prop:=c.off=a.off∧(∃b,OwnAt b 115 6 encEn W (.slice c.ae c.ne c.ce) a.ents)∧(∃b,OwnAt b 122 5 encLn W (.slice c.ax c.nx c.cx) a.lines)∧a.ents.length≤100∧a.lines.length≤100
theorem AkIs.grew{W W':World}{c:AkC}{a:AkP}(h:AkIs W c a)(g:Grew W W'): AkIs W' c a:=by
 obtain⟨h1,⟨b1,h2⟩,⟨b2,h3⟩,h4,h5⟩:=h;exact⟨h1,⟨b1,h2.grew g⟩,⟨b2,h3.grew g⟩,h4,h5⟩
def AllCame(W:World)(g:List Gr.Nd)(m:List (Who×AkC))(f:Who→AkP): Prop:=∀t∈tasksOf g,∃c,mfind m t=some c∧AkIs W c (f t)
def kindR(r:Option Gr.Nd): Int:=match r with
 | some n=>n.kind
 | none=>0
def kindOf(g:List Gr.Nd)(id:Int): Int:=kindR (Gr.nodeOf g id)
def offsG(g:List Gr.Nd)(f:Who→AkP)(T:List Who): List Int:=T.flatMap fun t=>if kindOf g t.1=0 then [(f t).off] else []
def outG(g:List Gr.Nd)(f:Who→AkP)(T:List Who): List Gr.Ln:=T.flatMap fun t=>if kindOf g t.1=2 then (f t).lines else []
def entG(g:List Gr.Nd)(f:Who→AkP)(T:List Who): List Tab.En:=T.flatMap fun t=>if kindOf g t.1=0∨kindOf g t.1=2 then [] else (f t).ents
theorem find_kind{r:Option Gr.Nd}{w w':World}{e:Ending}(h:GivesFind r w e w'): ∃c:NdC,e = .returned (.tuple #[.agg #[.int .i64 c.id,.int .i64 c.kind,.slice c.af c.nf c.cf,.slice c.ap c.np c.cp,.int .i64 c.par,.int .i64 c.r0,.int .i64 c.r1,.int .i64 c.r2,.int .i64 c.r3,.int .i64 c.r4,.int .i64 c.r5,.int .i64 c.r6,.int .i64 c.r7],.bool r.isSome])∧c.kind=kindR r∧Grew w w':=by
 cases r with
 |none =>
  obtain⟨h1,h2⟩:=h
  exact⟨⟨0,0,none,0,0,none,0,0,0,0,0,0,0,0,0,0,0⟩,h1,rfl,h2⟩
 |some n =>
  obtain⟨c,h1,h2,-,h4⟩:=h;exact⟨c,h1,h2.kind.symm,h4⟩
structure GaSt (w W:World) (B:Nat) (ep:Int) (vO vX vE:Value) (os:List Int) (xs:List Gr.Ln) (es:List Tab.En) (vT:Value) (T:List Who):Prop where
 g:Grew w W
 hB:w.heap.size<B
 z:W.heap[w.heap.size]? = some (.cells #[.int .i64 0,.int .i64 0,.slice none 0 0,.slice none 0 0,.slice none 0 0,.slice none 0 0,.slice none 0 0] 47)
 blk:W.heap[B]? = some (.cells #[.int .i64 ep,.int .i64 0,vO,.slice none 0 0,.slice none 0 0,vX,.slice none 0 0] 47)
 o:OwnAt w.heap.size 3 1 encN W vO os
 x:OwnAt w.heap.size 122 5 encLn W vX xs
 e:OwnAt w.heap.size 115 6 encEn W vE es
 t:OwnAt w.heap.size 178 2 encWho W vT T
theorem GaSt.grew{w W W':World}{B:Nat}{ep:Int}{vO vX vE:Value}{os:List Int}{xs:List Gr.Ln}{es:List Tab.En}{vT:Value}{T:List Who}(h:GaSt w W B ep vO vX vE os xs es vT T)(q:Grew W W'): GaSt w W' B ep vO vX vE os xs es vT T :=
 ⟨h.g.trans q,h.hB,grew_heap q h.z,grew_heap q h.blk,h.o.grew q,h.x.grew q,h.e.grew q,h.t.grew q⟩
theorem GaSt.addE{w W W':World}{B:Nat}{ep:Int}{vO vX vE v':Value}{os:List Int}{xs:List Gr.Ln}{es l:List Tab.En}{vT:Value}{T:List Who}(h:GaSt w W B ep vO vX vE os xs es vT T)(hA:Appended w 115 6 encEn W vE (es++l) v' W'): GaSt w W' B ep vO vX v' os xs (es++l) vT T:=by
 obtain⟨a1,a2,a3,a4,a5⟩:=hA;refine⟨a1,h.hB,by rw[a4 _ (heap_lt h.z) (OwnAt.other h.e h.z (by decide))];exact h.z,by rw[a4 B (heap_lt h.blk) (OwnAt.other h.e h.blk (by decide))];exact h.blk,OwnAt.same h.o fun b hb=>?_,OwnAt.same h.x fun b hb=>?_,a2,OwnAt.same h.t fun b hb=>?_⟩
 ·obtain⟨-,cs,hc⟩:=OwnAt.block h.o hb;exact a4 b (heap_lt hc) (OwnAt.other h.e hc (by decide))
 ·obtain⟨-,cs,hc⟩:=OwnAt.block h.x hb;exact a4 b (heap_lt hc) (OwnAt.other h.e hc (by decide))
 ·obtain⟨-,cs,hc⟩:=OwnAt.block h.t hb;exact a4 b (heap_lt hc) (OwnAt.other h.e hc (by decide))
theorem GaSt.addO{w W W':World}{B:Nat}{ep:Int}{vO vX vE v':Value}{os l:List Int}{xs:List Gr.Ln}{es:List Tab.En}{vT:Value}{T:List Who}(h:GaSt w W B ep vO vX vE os xs es vT T)(hA:Appended w 3 1 encN W vO (os++l) v' W'): GaSt w (W'.setCell ⟨B,2,none⟩ v') B ep v' vX vE (os++l) xs es vT T:=by
 obtain⟨a1,a2,a3,a4,a5⟩:=hA;have hb:W'.heap[B]? = some (.cells #[.int .i64 ep,.int .i64 0,vO,.slice none 0 0,.slice none 0 0,vX,.slice none 0 0] 47):=by rw[a4 B (heap_lt h.blk) (OwnAt.other h.o h.blk (by decide))];exact h.blk
 have st:∀{α:Type} {t:TypeId} {k:Nat} {enc:α→List Value} {v:Value} {l:List α},OwnAt w.heap.size t k enc W' v l→t≠47→OwnAt w.heap.size t k enc (W'.setCell ⟨B,2,none⟩ v') v l:=fun {α t k enc v l} ho hne =>
  OwnAt.same ho fun b hb2=>set_other fun e=>OwnAt.other ho hb (fun q=>hne q.symm) (e▸hb2)
 refine⟨a1.set (Nat.le_of_lt h.hB) _,h.hB,by rw[set_other (by have:=h.hB;omega),a4 _ (heap_lt h.z) (OwnAt.other h.o h.z (by decide))];exact h.z,by rw[set_self hb];rfl,st a2 (by decide),st (OwnAt.same h.x fun b hb=>?_) (by decide),st (OwnAt.same h.e fun b hb=>?_) (by decide),st (OwnAt.same h.t fun b hb=>?_) (by decide)⟩
 ·obtain⟨-,cs,hc⟩:=OwnAt.block h.x hb;exact a4 b (heap_lt hc) (OwnAt.other h.o hc (by decide))
 ·obtain⟨-,cs,hc⟩:=OwnAt.block h.e hb;exact a4 b (heap_lt hc) (OwnAt.other h.o hc (by decide))
 ·obtain⟨-,cs,hc⟩:=OwnAt.block h.t hb;exact a4 b (heap_lt hc) (OwnAt.other h.o hc (by decide))
theorem GaSt.addX{w W W':World}{B:Nat}{ep:Int}{vO vX vE v':Value}{os:List Int}{xs l:List Gr.Ln}{es:List Tab.En}{vT:Value}{T:List Who}(h:GaSt w W B ep vO vX vE os xs es vT T)(hA:Appended w 122 5 encLn W vX (xs++l) v' W'): GaSt w (W'.setCell ⟨B,5,none⟩ v') B ep vO v' vE os (xs++l) es vT T:=by
 obtain⟨a1,a2,a3,a4,a5⟩:=hA;have hb:W'.heap[B]? = some (.cells #[.int .i64 ep,.int .i64 0,vO,.slice none 0 0,.slice none 0 0,vX,.slice none 0 0] 47):=by rw[a4 B (heap_lt h.blk) (OwnAt.other h.x h.blk (by decide))];exact h.blk
 have st:∀{α:Type} {t:TypeId} {k:Nat} {enc:α→List Value} {v:Value} {l:List α},OwnAt w.heap.size t k enc W' v l→t≠47→OwnAt w.heap.size t k enc (W'.setCell ⟨B,5,none⟩ v') v l:=fun {α t k enc v l} ho hne =>
  OwnAt.same ho fun b hb2=>set_other fun e=>OwnAt.other ho hb (fun q=>hne q.symm) (e▸hb2)
 refine⟨a1.set (Nat.le_of_lt h.hB) _,h.hB,by rw[set_other (by have:=h.hB;omega),a4 _ (heap_lt h.z) (OwnAt.other h.x h.z (by decide))];exact h.z,by rw[set_self hb];rfl,st (OwnAt.same h.o fun b hb=>?_) (by decide),st a2 (by decide),st (OwnAt.same h.e fun b hb=>?_) (by decide),st (OwnAt.same h.t fun b hb=>?_) (by decide)⟩
 ·obtain⟨-,cs,hc⟩:=OwnAt.block h.o hb;exact a4 b (heap_lt hc) (OwnAt.other h.x hc (by decide))
 ·obtain⟨-,cs,hc⟩:=OwnAt.block h.e hb;exact a4 b (heap_lt hc) (OwnAt.other h.x hc (by decide))
 ·obtain⟨-,cs,hc⟩:=OwnAt.block h.t hb;exact a4 b (heap_lt hc) (OwnAt.other h.x hc (by decide))
theorem GaSt.blkA{α:Type}{t:TypeId}{k:Nat}{enc:α→List Value}{w W W':World}{B:Nat}{ep:Int}{vO vX vE:Value}{os:List Int}{xs:List Gr.Ln}{es:List Tab.En}{vT:Value}{T:List Who}{v v':Value}{l0 l:List α}(h:GaSt w W B ep vO vX vE os xs es vT T)(ho:OwnAt w.heap.size t k enc W v l0)(hne:47≠t)(henc:∀x,(enc x).length=k)(hA:Appended w t k enc W v l v' W'):
  W'.heap[B]? = some (.cells #[.int .i64 ep,.int .i64 0,vO,.slice none 0 0,.slice none 0 0,vX,.slice none 0 0] 47)∧W'.cell? ⟨B,2,none⟩=some vO∧W'.cell? ⟨B,5,none⟩=some vX∧W'.frozen? ⟨B,2,none⟩=false∧W'.frozen? ⟨B,5,none⟩=false∧Pre B W'∧∃a c,v' = .slice a l.length c:=by
 obtain⟨a1,a2,a3,a4,a5⟩:=hA;have hb:W'.heap[B]? = some (.cells #[.int .i64 ep,.int .i64 0,vO,.slice none 0 0,.slice none 0 0,vX,.slice none 0 0] 47):=by rw[a4 B (heap_lt h.blk) (OwnAt.other ho h.blk hne)];exact h.blk
 exact⟨hb,(cell_of hb).trans rfl,(cell_of hb).trans rfl,frozen_of hb,frozen_of hb,Pre.mk (heap_lt hb),(OwnAt.rows a2 henc).len⟩
end Go.Proofs.YtipgfjihdglocaaGreat
