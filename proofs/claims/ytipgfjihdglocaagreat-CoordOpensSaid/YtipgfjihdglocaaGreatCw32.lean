import Derived.Test.YtipgfjihdglocaaGreatCw27
import Derived.Test.YtipgfjihdglocaaGreatCw26
import Derived.Test.YtipgfjihdglocaaGreatCw30
set_option linter.unusedSimpArgs false
set_option linter.unusedVariables false
set_option maxRecDepth 100000
set_option maxHeartbeats 64000000
namespace Go.Proofs.YtipgfjihdglocaaGreat
open Go.RowKit Ga
def IsOwn(base:Nat)(z:Gr.Stp)(v:Value)(w:World): Prop:=∃d:StC,v = .agg #[.int .i64 d.kind,.int .i64 d.c.id,.int .i64 d.c.kind,.slice d.c.af d.c.nf d.c.cf,.slice d.c.ap d.c.np d.c.cp,.int .i64 d.c.par,.int .i64 d.c.r0,.int .i64 d.c.r1,.int .i64 d.c.r2,.int .i64 d.c.r3,.int .i64 d.c.r4,.int .i64 d.c.r5,.int .i64 d.c.r6,.int .i64 d.c.r7,.bool d.reset]∧StepIs w d z∧OwnsNd base w d.c z.nd
theorem IsOwn.st(base:Nat)(z:Gr.Stp): ∀v w w',IsOwn base z v w→Grew w w'→IsOwn base z v w':=fun _ _ _ ⟨d,h1,h2,h3⟩ g=>⟨d,h1,h2.grew g,h3.grew g⟩
theorem packSame_any(c d:StC)(s t:Gr.Stp)(w:World)(hn:StepIs w c s)(hm:StepIs w d t)(hs:s.nd.frm.length≤1000∧s.nd.prog.length≤1000)(ht:t.nd.frm.length≤1000∧t.nd.prog.length≤1000): Calls Tryz.prog 108 #[.agg #[.int .i64 c.kind,.int .i64 c.c.id,.int .i64 c.c.kind,.slice c.c.af c.c.nf c.c.cf,.slice c.c.ap c.c.np c.c.cp,.int .i64 c.c.par,.int .i64 c.c.r0,.int .i64 c.c.r1,.int .i64 c.c.r2,.int .i64 c.c.r3,.int .i64 c.c.r4,.int .i64 c.c.r5,.int .i64 c.c.r6,.int .i64 c.c.r7,.bool c.reset],.agg #[.int .i64 d.kind,.int .i64 d.c.id,.int .i64 d.c.kind,.slice d.c.af d.c.nf d.c.cf,.slice d.c.ap d.c.np d.c.cp,.int .i64 d.c.par,.int .i64 d.c.r0,.int .i64 d.c.r1,.int .i64 d.c.r2,.int .i64 d.c.r3,.int .i64 d.c.r4,.int .i64 d.c.r5,.int .i64 d.c.r6,.int .i64 d.c.r7,.bool d.reset]] w (Gives (.bool (eqSt (Gr.cleanS s) (Gr.cleanS t))) w):=by
 have HC:=hY fun W (g:Grew w W)=>clean49_any c s W (hn.grew g) hs
 have HD:=hY fun W (g:Grew w W)=>clean49_any d t W (hm.grew g) ht
 have HEQ:=hY (eqSt_iff (s:=Gr.cleanS s) (t:=Gr.cleanS t));have HSS:=hY (clean_small hs);have HTT:=hY (clean_small ht);obtain⟨kd,rs,id,kind,af,cf,ap,cp,par,r0,r1,r2,r3,r4,r5,r6,r7,rfl⟩:=hn.lit;obtain⟨kd2,rs2,id2,kind2,af2,cf2,ap2,cp2,par2,s0,s1,s2,s3,s4,s5,s6,s7,rfl⟩:=hm.lit;clear hn hm hs ht;generalize Gr.cleanS s=x at *;generalize Gr.cleanS t=y at *;go_enter Tryz.func108,Tryz.ntmps108
 go_upto_region 1 with fail
 refine wp_region_seq 4 Tryz.mixed (by kernel_rfl) (by kernel_rfl) ?_
 iterate 1
  apply Seq.val
  focus
   rintro w1 u ⟨R1,n1,rfl⟩ hF;simp[moreFacts,Fact.more,Oper.deps,Region.binds,List.filter_cons,World.more_drew] at hF;simp[putFacts,Oper.deps,Region.binds,List.filter_cons,Region.dstOf,Fact.at,Act.put,World.more_drew];go_wp2;exact⟨gw,rfl,_,_,rfl,rfl,rfl⟩
 apply Seq.of (IsOwn (w.heap.size+1+1) x) (IsOwn.st _ x)
 focus
  rintro w1 u ⟨R1,n1,rfl⟩ hF;simp[moreFacts,Fact.more,Oper.deps,Region.binds,List.filter_cons,World.more_drew] at hF;simp[putFacts,Oper.deps,Region.binds,List.filter_cons,Region.dstOf,Fact.at,Act.put,World.more_drew]
  go_wp2_with (first
   | (go_at_call 105;refine(HC.o _ gw).mono ?_;rintro e w2 ⟨d1,rfl,h1,h2,R3,n3,rfl⟩)
   )
  exact⟨gw,rfl,_,_,rfl,rfl,⟨d1,rfl,h1,OwnsNd.low h2 (by simp[go_sem]<;>omega)⟩⟩
 iterate 1
  apply Seq.val
  focus
   rintro w1 u ⟨R1,n1,rfl⟩ hF;simp[moreFacts,Fact.more,Oper.deps,Region.binds,List.filter_cons,World.more_drew] at hF;simp[putFacts,Oper.deps,Region.binds,List.filter_cons,Region.dstOf,Fact.at,Act.put,World.more_drew];go_wp2;exact⟨gw,rfl,_,_,rfl,rfl,rfl⟩
 apply Seq.of (IsOwn (w.heap.size+1+1) y) (IsOwn.st _ y)
 focus
  rintro w1 u ⟨R1,n1,rfl⟩ hF;simp[moreFacts,Fact.more,Oper.deps,Region.binds,List.filter_cons,World.more_drew] at hF;simp[putFacts,Oper.deps,Region.binds,List.filter_cons,Region.dstOf,Fact.at,Act.put,World.more_drew]
  go_wp2_with (first
   | (go_at_call 105;refine(HD.o _ gw).mono ?_;rintro e w2 ⟨d1,rfl,h1,h2,R3,n3,rfl⟩)
   )
  exact⟨gw,rfl,_,_,rfl,rfl,⟨d1,rfl,h1,OwnsNd.low h2 (by simp[go_sem]<;>omega)⟩⟩
 rintro u w1 ⟨R1,n1,rfl⟩ hF;simp[moreFacts,Fact.more,apartFacts,Fact.isNew,List.range_succ] at hF;simp[putFacts,Region.dstOf,Fact.at,Act.put,List.range_succ,World.more_drew];obtain⟨⟨d1,hu1,h1,o1⟩,d2,hu2,h2,o2⟩:=hF;rw[hu1,hu2];have e1:=h1.kind;have e2:=h1.reset;have g1:=h2.kind;have g2:=h2.reset;have HN:=hY fun(A B:Obj)=>(show NodeIs (((w.alloc A).alloc B).more R1 n1) d1.c x.nd from (OwnsNd.to o1 (fun b hb _=>heap_more_same (by simp[World.size_alloc]) _ _ _ (by simp[World.size_alloc];omega))).is h1.nd)
 have HM:=hY fun(A B:Obj)=>(show NodeIs (((w.alloc A).alloc B).more R1 n1) d2.c y.nd from (OwnsNd.to o2 (fun b hb _=>heap_more_same (by simp[World.size_alloc]) _ _ _ (by simp[World.size_alloc];omega))).is h2.nd)
 obtain⟨ka,ra,ida,kina,afa,cfa,apa,cpa,para,a0,a1,a2,a3,a4,a5,a6,a7,rfl⟩:=h1.lit;obtain⟨kb,rb,idb,kinb,afb,cfb,apb,cpb,parb,b0,b1,b2,b3,b4,b5,b6,b7,rfl⟩:=h2.lit;simp only at e1 e2 g1 g2;rw[e1,e2,g1,g2] at HEQ;clear h1 h2 o1 o2 hu1 hu2 e1 e2 g1 g2;generalize eqSt x y=q at *;by_cases h1:ka=kb
 case neg =>
  have hq:q=false:=by rw[HEQ.o,decide_eq_false h1];rfl
  have HQ:=hY hq;have h1b:(ka==kb)=false:=by simpa using h1
  clear h1 hq;go_wp2;go_ret;exact⟨by rw[HQ.o];rfl,gw⟩
 subst h1;by_cases h2:ra=rb
 case neg =>
  have hq:q=false:=by rw[HEQ.o,beq_eq_false_iff_ne.2 h2];simp
  have HQ:=hY hq;have h2b:(ra==rb)=false:=beq_eq_false_iff_ne.2 h2;clear h2 hq;go_wp2;go_ret;exact⟨by rw[HQ.o];rfl,gw⟩
 subst h2;cases hq2:eqNd x.nd y.nd
 ·have hq:q=false:=by rw[HEQ.o,hq2];simp
  have HQ:=hY hq;have HQ2:=hY hq2;clear hq hq2
  go_wp2_with (go_at_call 19;refine Calls.mono (same_one _ _ x.nd y.nd _ ?_ ?_ HSS.o HTT.o) ?_;(focus(refine NodesAt.grew ?_ ((Grew.refl _).alloc _);exact NodesAt.one ((HN.o _ _).grew gw) _ (by simp[go_sem]) _ rfl));(focus exact NodesAt.one ((HM.o _ _).grew gw) _ (by simp[go_sem]) _ rfl);rintro e w1 ⟨rfl,R1,n1,rfl⟩;rw[HQ2.o])
  go_ret;exact⟨by rw[HQ.o];rfl,gw⟩
 ·have hq:q=true:=by rw[HEQ.o,hq2];simp
  have HQ:=hY hq;have HQ2:=hY hq2;clear hq hq2
  go_wp2_with (go_at_call 19;refine Calls.mono (same_one _ _ x.nd y.nd _ ?_ ?_ HSS.o HTT.o) ?_;(focus(refine NodesAt.grew ?_ ((Grew.refl _).alloc _);exact NodesAt.one ((HN.o _ _).grew gw) _ (by simp[go_sem]) _ rfl));(focus exact NodesAt.one ((HM.o _ _).grew gw) _ (by simp[go_sem]) _ rfl);rintro e w1 ⟨rfl,R1,n1,rfl⟩;rw[HQ2.o])
  go_ret;exact⟨by rw[HQ.o];rfl,gw⟩
end Go.Proofs.YtipgfjihdglocaaGreat
