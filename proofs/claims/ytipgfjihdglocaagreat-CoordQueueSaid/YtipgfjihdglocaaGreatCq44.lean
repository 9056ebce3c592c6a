import Derived.Test.YtipgfjihdglocaaGreatCq42
import Derived.Test.YtipgfjihdglocaaGreatCq28
import Derived.Test.YtipgfjihdglocaaGreatCq32
set_option linter.unusedSimpArgs false
set_option linter.unusedVariables false
set_option maxRecDepth 100000
set_option maxHeartbeats 64000000
namespace Go.Proofs.YtipgfjihdglocaaGreat
open Go.RowKit Ga
def IsNd(g:List Gr.Nd)(v:Value)(w:World): Prop:=NodesAt w v g
theorem IsNd.st(g:List Gr.Nd): ∀v w w',IsNd g v w→Grew w w'→IsNd g v w':=fun _ _ _ h g=>NodesAt.grew h g
structure GaAt (W:World) (x b n:Nat) (g:List Gr.Nd) (ep:Int) (m:List (Who×AkC)):Prop where
 ga:GatherAt W x b n g ep m
 ow:∃v lc,W.heap[x]? = some (.cells #[v,.int .i64 ep,.map (some b)] 176)∧NodesOwn 0 W v lc∧NodesIn 0 W lc g
theorem MapAt.leaves{κ ν:Type}{S:MSpec κ ν}{T:List TypeId}{W W':World}{b n:Nat}{m:List (κ×ν)}(h:MapAt S W b n m)(g:Leaves T W W'): MapAt S W' b n m:=by
 refine h.same ?_;obtain⟨D,⟨es,c,h1,-⟩,-⟩:=h;rw[h1];exact g b _ h1 fun c t f e=>by cases e
theorem GaAt.leaves{T:List TypeId}{W W':World}{x b n:Nat}{g:List Gr.Nd}{ep:Int}{m:List (Who×AkC)}(h:GaAt W x b n g ep m)(q:Leaves T W W')(hT:NoData T)(hG:176∉T): GaAt W' x b n g ep m:=by
 obtain⟨v,lc,h1,h2,h3⟩:=h.ow;have h1':=q.at h1 hG;have h2':NodesOwn 0 W' v lc:=q.own h2 hT.2.2.1;have h3':=q.nodes h3 hT.1 hT.2.1;exact⟨⟨⟨v,h1',h3'.at h2'⟩,h.ga.map.leaves q,h.ga.small,h.ga.len,h.ga.so,h.ga.right⟩,v,lc,h1',h2',h3'⟩
theorem GaAt.grew{W W':World}{x b n:Nat}{g:List Gr.Nd}{ep:Int}{m:List (Who×AkC)}(h:GaAt W x b n g ep m)(q:Grew W W'): GaAt W' x b n g ep m:=h.leaves (T:=[]) (Leaves.grew q) (by simp[NoData]) (by simp)
def IsGa(base:Nat)(g:List Gr.Nd)(ep:Int)(v:Value)(w:World): Prop:=∃x b:Nat,v = .pointer (some ⟨x,0,none⟩)∧GaAt w x b 0 g ep []∧base≤x∧base≤b
def IsGt(base:Nat)(g:List Gr.Nd)(ep:Int)(v:Value)(w:World): Prop:=∃x b:Nat,v = .tuple #[.pointer (some ⟨x,0,none⟩),.int .i64 0]∧GaAt w x b 0 g ep []∧base≤x∧base≤b
theorem IsGa.st(base:Nat)(g:List Gr.Nd)(ep:Int): ∀v w w',IsGa base g ep v w→Grew w w'→IsGa base g ep v w':=fun _ _ _ ⟨x,b,h1,h2,h3⟩ q=>⟨x,b,h1,h2.grew q,h3⟩
theorem IsGt.st(base:Nat)(g:List Gr.Nd)(ep:Int): ∀v w w',IsGt base g ep v w→Grew w w'→IsGt base g ep v w':=fun _ _ _ ⟨x,b,h1,h2,h3⟩ q=>⟨x,b,h1,h2.grew q,h3⟩
theorem coBegin_any{w0 W:World}{z bk lg:Nat}{ms:List Gr.Mf}{m:Gr.Mf}{ps:List (List Gr.Stp)}{pl:Bool}{last ref:Int}(h:CoAt w0 W z bk lg ms m ps (.pointer none) pl last ref)(hl:0≤last∧last≤2000000000):
  Calls Tryz.prog 13 #[.pointer (some ⟨z,0,none⟩)] W fun e W'=>e = .returned (.tuple #[.int .i64 (last+1),.bool (decide (0<ps.length)),.int .i64 0])∧∃x b,CoAt w0 W' z bk lg ms m ps (.pointer (some ⟨x,0,none⟩)) (decide (0<ps.length)) (last+1) ref∧GaAt W' x b 0 (Gr.normG m.graph) (last+1) []∧w0.heap.size≤x∧w0.heap.size≤b∧Leaves [83] W W'∧W.heap.size≤b:=by
 have H:=hY h;obtain⟨hv,qv,h1,h2,h3⟩:=h.blk;have hb:Pre z W:=heap_lt h1;have c3:=cell_of (o:=3) h1;have c4:=cell_of (o:=4) h1;have c5:=cell_of (o:=5) h1;have c6:=cell_of (o:=6) h1;have f4:=frozen_of (o:=4) h1;have f5:=frozen_of (o:=5) h1;have f6:=frozen_of (o:=6) h1;simp at c3 c4 c5 c6;have HM:=hY fun W' (g:Grew W W')=>coManifest_any (grew_heap g h1) rfl (h2.grew g) h.ok
 have HN:=hY fun v W' (hn:NodesAt W' v m.graph)=>newO_any v m.graph (last+1) W' hn h.ok.s h.ok.r.gr (by omega) (by omega)
 obtain⟨aq,cq,rfl,hn,-⟩:=h3.at;have hfld:=coField3;have hl1:last+1≤9223372036854775807:=by omega
 have hl2 : -9223372036854775808≤last+1:=by omega
 have HB:=hY h1;have HB2:=hY h2;have HB3:=hY h3;clear h h1 h2 h3 hl;go_enter Tryz.func13,Tryz.ntmps13
 go_wp2_with fail
 refine wp_region_seq 14 Tryz.mixed (by kernel_rfl) (by kernel_rfl) ?_
 iterate 1
  apply Seq.val
  focus
   rintro w1 u ⟨R1,n1,rfl⟩ hF;simp[moreFacts,Fact.more,Oper.deps,Region.binds,List.filter_cons,World.more_drew] at hF;simp[putFacts,Oper.deps,Region.binds,List.filter_cons,Region.dstOf,Fact.at,Act.put,World.more_drew];go_wp2;exact⟨gw,rfl,_,_,rfl,rfl,rfl⟩
 apply Seq.of (IsMf m) (IsMf.st _)
 focus
  rintro w1 u ⟨R1,n1,rfl⟩ hF;simp[moreFacts,Fact.more,Oper.deps,Region.binds,List.filter_cons,World.more_drew] at hF;simp[putFacts,Oper.deps,Region.binds,List.filter_cons,Region.dstOf,Fact.at,Act.put,World.more_drew]
  go_wp2_with (first
   | (go_at_call 16;refine(HM.o _ gw).mono ?_;rintro e w2 ⟨c2,rfl,hm,R3,n3,rfl⟩)
   )
  exact⟨gw,rfl,_,_,rfl,rfl,⟨c2,rfl,hm⟩⟩
 apply Seq.of (IsNd m.graph) (IsNd.st _)
 focus
  rintro w1 u ⟨R1,n1,rfl⟩ hF;simp[moreFacts,Fact.more,Oper.deps,Region.binds,List.filter_cons,World.more_drew] at hF;simp[putFacts,Oper.deps,Region.binds,List.filter_cons,Region.dstOf,Fact.at,Act.put,World.more_drew];obtain⟨c2,hu,hm⟩:=hF;rw[hu]
  go_wp2_with fail
  exact⟨gw,rfl,_,_,rfl,rfl,hm.is.g⟩
 iterate 5
  apply Seq.val
  focus
   rintro w1 u ⟨R1,n1,rfl⟩ hF;simp[moreFacts,Fact.more,Oper.deps,Region.binds,List.filter_cons,World.more_drew] at hF;simp[putFacts,Oper.deps,Region.binds,List.filter_cons,Region.dstOf,Fact.at,Act.put,World.more_drew];go_wp2;exact⟨gw,rfl,_,_,rfl,rfl,rfl⟩
 apply Seq.of (IsGt W.heap.size (Gr.normG m.graph) (last+1)) (IsGt.st _ _ _)
 focus
  rintro w1 u ⟨R1,n1,rfl⟩ hF;simp[moreFacts,Fact.more,Oper.deps,Region.binds,List.filter_cons,World.more_drew] at hF;simp[putFacts,Oper.deps,Region.binds,List.filter_cons,Region.dstOf,Fact.at,Act.put,World.more_drew]
  (have HF:=hY hF);clear hF
  go_wp2_with (first
   | (go_at_call 48;refine(HN.o _ _ HF.o.1).mono ?_;rintro e w2 ⟨x9,b9,rfl,⟨v9,lc9,q1,q2,q3⟩,hga,hx8,hb8,R3,n3,rfl⟩;(have hg9:GaAt _ x9 b9 0 _ _ _:=⟨hga,v9,lc9,q1,OwnAt.low q2 (Nat.zero_le _),Rel.mono (fun _ _ h=>⟨h.1,⟨OwnAt.low h.2.1 (Nat.zero_le _),OwnAt.low h.2.2 (Nat.zero_le _)⟩⟩) q3⟩);(have hx9:=Nat.le_trans (Grew.below (gw:Grew W (W.more R1 n1))).size hx8);(have hb9:=Nat.le_trans (Grew.below (gw:Grew W (W.more R1 n1))).size hb8))
   )
  exact⟨gw,rfl,_,_,rfl,rfl,⟨x9,b9,rfl,hg9,hx9,hb9⟩⟩
 apply Seq.of (IsGt W.heap.size (Gr.normG m.graph) (last+1)) (IsGt.st _ _ _)
 focus
  rintro w1 u ⟨R1,n1,rfl⟩ hF;simp[moreFacts,Fact.more,Oper.deps,Region.binds,List.filter_cons,World.more_drew] at hF;simp[putFacts,Oper.deps,Region.binds,List.filter_cons,Region.dstOf,Fact.at,Act.put,World.more_drew];obtain⟨x9,b9,hu,hg9,hx9,hb9⟩:=hF;rw[hu]
  go_wp2_with fail
  exact⟨gw,rfl,_,_,rfl,rfl,⟨x9,b9,rfl,hg9,hx9,hb9⟩⟩
 apply Seq.of (IsGa W.heap.size (Gr.normG m.graph) (last+1)) (IsGa.st _ _ _)
 focus
  rintro w1 u ⟨R1,n1,rfl⟩ hF;simp[moreFacts,Fact.more,Oper.deps,Region.binds,List.filter_cons,World.more_drew] at hF;simp[putFacts,Oper.deps,Region.binds,List.filter_cons,Region.dstOf,Fact.at,Act.put,World.more_drew];obtain⟨x9,b9,hu,hg9,hx9,hb9⟩:=hF;rw[hu]
  go_wp2_with fail
  exact⟨gw,rfl,_,_,rfl,rfl,⟨x9,b9,rfl,hg9,hx9,hb9⟩⟩
 apply Seq.val
 focus
  rintro w1 u ⟨R1,n1,rfl⟩ hF;simp[moreFacts,Fact.more,Oper.deps,Region.binds,List.filter_cons,World.more_drew] at hF;simp[putFacts,Oper.deps,Region.binds,List.filter_cons,Region.dstOf,Fact.at,Act.put,World.more_drew];obtain⟨x9,b9,hu,hg9,hx9,hb9⟩:=hF;rw[hu]
  go_wp2_with fail
  exact⟨gw,rfl,_,_,rfl,rfl,rfl⟩
 apply Seq.of (IsGa W.heap.size (Gr.normG m.graph) (last+1)) (IsGa.st _ _ _)
 focus
  rintro w1 u ⟨R1,n1,rfl⟩ hF;simp[moreFacts,Fact.more,Oper.deps,Region.binds,List.filter_cons,World.more_drew] at hF;simp[putFacts,Oper.deps,Region.binds,List.filter_cons,Region.dstOf,Fact.at,Act.put,World.more_drew];obtain⟨⟨x9,b9,hu,hg9,hx9,hb9⟩,-⟩:=hF;rw[hu]
  go_wp2_with fail
  exact⟨gw,rfl,_,_,rfl,rfl,⟨x9,b9,rfl,hg9,hx9,hb9⟩⟩
 iterate 1
  apply Seq.val
  focus
   rintro w1 u ⟨R1,n1,rfl⟩ hF;simp[moreFacts,Fact.more,Oper.deps,Region.binds,List.filter_cons,World.more_drew] at hF;simp[putFacts,Oper.deps,Region.binds,List.filter_cons,Region.dstOf,Fact.at,Act.put,World.more_drew];go_wp2;exact⟨gw,rfl,_,_,rfl,rfl,rfl⟩
 rintro u w1 ⟨R1,n1,rfl⟩ hF;simp[moreFacts,apartFacts,Fact.more,Fact.isNew,List.range_succ,World.more_drew] at hF;obtain⟨-,-,-,-,-,x9,b9,hu,hg9,hx9,hb9⟩:=hF;simp[putFacts,Region.dstOf,Fact.at,Act.put,List.range_succ,World.more_drew];rw[hu];have HG9:=hY hg9;have HX9:=hY hx9;have HB9:=hY hb9;clear hu hg9 hx9 hb9 hfld
 go_wp2_with fail
 have e1:=set_blk (o:=6) (v:=.int .i64 (last+1)) HB.o rfl;have e2:=set_blk (o:=4) (v:=.pointer (some ⟨x9,0,none⟩)) e1 rfl;have e3:=set_blk (o:=5) (v:=.bool (decide (0<ps.length))) e2 rfl;have hl:=((((Leaves.refl [83] W).set (o:=6) (v:=.int .i64 (last+1)) HB.o (by simp)).set (o:=4) (v:=.pointer (some ⟨x9,0,none⟩)) e1 (by simp)).set (o:=5) (v:=.bool (decide (0<ps.length))) e2 (by simp));have hg:=(((H.o.g.set (o:=6) H.o.z0 (.int .i64 (last+1))).set (o:=4) H.o.z0 (.pointer (some ⟨x9,0,none⟩))).set (o:=5) H.o.z0 (.bool (decide (0<ps.length))));have ht:Twin 83 W (((W.setCell ⟨z,6,none⟩ (.int .i64 (last+1))).setCell ⟨z,4,none⟩ (.pointer (some ⟨x9,0,none⟩))).setCell ⟨z,5,none⟩ (.bool (decide (0<ps.length)))):=⟨hl,by simp[World.size_setCell]⟩;clear c3 c4 c5 c6 f4 f5 f6 e1 e2 hb;generalize ((W.setCell ⟨z,6,none⟩ (.int .i64 (last+1))).setCell ⟨z,4,none⟩ (.pointer (some ⟨x9,0,none⟩))).setCell ⟨z,5,none⟩ (.bool (decide (0<ps.length)))=WS at *;have c5:=cell_of (o:=5) e3;have c6:=cell_of (o:=6) e3;simp at c5 c6;have hb:Pre z WS:=heap_lt e3;have HE3:=hY e3;have HLS:=hY hl;have HGS:=hY hg;have HTS:=hY ht;clear e3 hl hg ht;refine wp_region_seq 11 Tryz.mixed (by kernel_rfl) (by kernel_rfl) ?_
 iterate 11
  apply Seq.val
  focus
   rintro w1 u ⟨R1,n1,rfl⟩ hF;simp[moreFacts,Fact.more,Oper.deps,Region.binds,List.filter_cons,World.more_drew] at hF;simp[putFacts,Oper.deps,Region.binds,List.filter_cons,Region.dstOf,Fact.at,Act.put,World.more_drew];go_wp2;exact⟨gw,rfl,_,_,rfl,rfl,rfl⟩
 rintro u w1 ⟨R1,n1,rfl⟩ hF;clear hF;simp[putFacts,Region.dstOf,Fact.at,Act.put,List.range_succ,World.more_drew];go_wp2
 rename_i R4 n4
 have hT:NoData [83]:=by simp[NoData]
 exact bodyPost_ret (v:=.tuple #[.int .i64 (last+1),.bool (decide (0<ps.length)),.int .i64 0]) (by simp[results,Tryz.results13,go_sem]) rfl ⟨rfl,x9,b9,⟨⟨_,_,grew_heap gw HE3.o,(HB2.o.leaves HLS.o hT (by simp)).grew gw,(HB3.o.leaves HLS.o hT (by simp)).grew gw⟩,H.o.ok,H.o.n,H.o.z0,HGS.o.trans gw⟩,(HG9.o.leaves (HTS.o.more R4 n4).1 hT (by simp)).grew gw,Nat.le_trans H.o.g.below.size HX9.o,Nat.le_trans H.o.g.below.size HB9.o,HLS.o.trans (Leaves.grew gw),HB9.o⟩
def ackO:AkC:=⟨0,0,1,none,0,0,none,0,0,0⟩
theorem pass1_addO:addR passL1 1 [] ackO=0:=by
 have h:Gr.nodeOf passL1 ackO.node=some ⟨0,0,[],[],1,List.replicate 8 0⟩:=rfl;unfold addR;rw[h];have hm:mfind ([]:List (Who×AkC)) (ackO.node,ackO.ix)=none:=mfind_no fun x hx=>by cases hx
 simp only;rw[hm];simp[ackO]
theorem map_ne{κ ν:Type}{S:MSpec κ ν}{W:World}{b n z:Nat}{m:List (κ×ν)}{c:Array Value}{t:TypeId}(h:MapAt S W b n m)(hz:W.heap[z]? = some (.cells c t)): z≠b:=by
 obtain⟨D,⟨es,c,h1,-⟩,-⟩:=h;intro e;rw[e,h1] at hz;cases hz
theorem coAck_one{w0 W:World}{z bk lg x b:Nat}{hv qv:Value}{pl:Bool}{last ref:Int}(h1:W.heap[z]? = some (.cells #[.pointer (some ⟨bk,0,none⟩),.pointer (some ⟨lg,0,none⟩),hv,qv,.pointer (some ⟨x,0,none⟩),.bool pl,.int .i64 last,.int .i64 ref] 83))(hG:GatherAt W x b 0 passL1 1 [])(hg:Grew w0 W)(hb:w0.heap.size≤b):
  Calls Tryz.prog 17 #[.pointer (some ⟨z,0,none⟩),akv ackO] W fun e W'=>e = .returned (.int .i64 0)∧W'.heap[z]? = W.heap[z]? ∧ GatherAt W' x b 1 passL1 1 [((0,0),ackO)]∧Grew w0 W':=by
 have c4:=cell_of (o:=4) h1;simp at c4;have hbz:Pre z W:=heap_lt h1;have hne:=map_ne hG.map h1;have HA:=hY fun W' (g:Grew W W')=>add_any' w0 W' x b 0 passL1 1 [] ackO (hG.grew g) (hg.trans g) hb (by decide) (by unfold okWho;decide)
 have HN:=hY hne;have HBZ:=hY hbz;clear h1 hG hg hb hne;show Calls Tryz.prog _ #[_,.agg #[.int .i64 0,.int .i64 0,.int .i64 1,.slice none 0 0,.slice none 0 0,.int .i64 0]] W _;go_enter Tryz.func17,Tryz.ntmps17
 go_wp2_with fail
 refine wp_region_seq 5 Tryz.mixed (by kernel_rfl) (by kernel_rfl) ?_
 iterate 5
  apply Seq.val
  focus
   rintro w1 u ⟨R1,n1,rfl⟩ hF;simp[moreFacts,Fact.more,Oper.deps,Region.binds,List.filter_cons,World.more_drew] at hF;simp[putFacts,Oper.deps,Region.binds,List.filter_cons,Region.dstOf,Fact.at,Act.put,World.more_drew];go_wp2;exact⟨gw,rfl,_,_,rfl,rfl,rfl⟩
 rintro u w1 ⟨R1,n1,rfl⟩ hF;clear hF;simp[putFacts,Region.dstOf,Fact.at,Act.put,List.range_succ,World.more_drew]
 go_wp2_with fail
 refine(HA.o _ gw).mono ?_;rintro e w4 ⟨rfl,-,h4⟩;obtain⟨h5,h6,h7⟩:=h4 pass1_addO;rw[pass1_addO];have H5:=hY h5;have H6:=hY h6;have H7:=hY h7;clear h4 h5 h6 h7
 go_wp2_with fail
 go_ret;refine⟨rfl,?_,H5.o,H6.o⟩;exact(H7.o.2 z (Nat.lt_of_lt_of_le HBZ.o (Grew.below (gw:Grew W _)).size) HN.o).trans ((Grew.below (gw:Grew W _)).block z HBZ.o)
theorem coReady_one{W:World}{z bk lg x b:Nat}{hv qv:Value}{pl:Bool}{last ref:Int}(h1:W.heap[z]? = some (.cells #[.pointer (some ⟨bk,0,none⟩),.pointer (some ⟨lg,0,none⟩),hv,qv,.pointer (some ⟨x,0,none⟩),.bool pl,.int .i64 last,.int .i64 ref] 83))(hG:GatherAt W x b 1 passL1 1 [((0,0),ackO)]):
  Calls Tryz.prog 27 #[.pointer (some ⟨z,0,none⟩)] W (Gives (.bool false) W):=by
 have c4:=cell_of (o:=4) h1;simp at c4;have HM:=hY (missing_any x b 1 passL1 1 _ W hG (by decide));rw[pass1_tasks] at HM;clear h1 hG;go_enter Tryz.func27,Tryz.ntmps27
 go_wp2_with (go_at_call 74;refine HM.o.mono ?_;rintro e w1 ⟨rfl,R1,n1,rfl⟩)
 go_ret;refine⟨rfl,?_⟩;exact gw
section
variable {w0 W:World} {z bk lg:Nat} {ms:List Gr.Mf} {m:Gr.Mf} {ps:List (List Gr.Stp)} {uv:Value} {pl:Bool} {last ref:Int}
theorem coQueue_any(h:CoAt w0 W z bk lg ms m ps uv pl last ref): Calls Tryz.prog 14 #[.pointer (some ⟨z,0,none⟩)] W (Gives (.int .i64 ps.length) W):=by
 obtain⟨hv,qv,h1,h2,h3⟩:=h.blk;have c3:=cell_of (o:=3) h1;simp at c3;obtain⟨aq,cq,rfl,hn,-⟩:=h3.at;clear h h1 h2 h3;go_enter Tryz.func14,Tryz.ntmps14;go_wp2;go_ret;refine⟨rfl,?_⟩;exact gw
end
end Go.Proofs.YtipgfjihdglocaaGreat
