import Derived.Test.YtipgfjihdglocaaGreatCw15
import Derived.Test.YtipgfjihdglocaaGreatCw35
import Derived.Test.YtipgfjihdglocaaGreatCw37
set_option linter.unusedSimpArgs false
set_option linter.unusedVariables false
set_option maxRecDepth 100000
set_option maxHeartbeats 64000000
namespace Go.Proofs.YtipgfjihdglocaaGreat
open Go.RowKit Ga
theorem perm_strict{l l':List Gr.Nd}(hp:l'.Perm l)(h:l.Pairwise fun a b=>a.id<b.id)(h':l'.Pairwise fun a b=>a.id≤b.id): l'=l:=by
 have hu:(l.map (·.id)).Nodup:=by
  rw[List.Nodup,List.pairwise_map];exact h.imp fun {a b} q e=>by omega
 have hu':(l'.map (·.id)).Nodup:=(hp.map (·.id)).nodup_iff.2 hu
 have hs':l'.Pairwise fun a b=>a.id<b.id:=by
  rw[List.Nodup,List.pairwise_map] at hu';exact(h'.and hu').imp fun {a b} ⟨q1,q2⟩=>by omega
 exact hp.eq_of_pairwise (le:=fun a b:Gr.Nd=>a.id<b.id) (fun a b _ _ h1 h2=>by omega) hs' h
theorem norm_strict(v:Value)(l:List Gr.Nd)(w:World)(hv:NodesAt w v l)(hs:Small l)(hl:l.length≤19)(ho:l.Pairwise fun a b=>a.id<b.id): Calls Tryz.prog 55 #[v] w (fun e w'=>∃v',e = .returned v'∧NodesAt w' v' l∧Grew w w'):=by
 refine(norm_any v l w hv hs hl).mono ?_;rintro e w' ⟨v',lc,l',rfl,h1,h2,h3,h4,g⟩;obtain rfl:=perm_strict h3 ho h4;exact⟨v',rfl,h2.at h1,g⟩
theorem same_strict(v u:Value)(l m:List Gr.Nd)(w:World)(hv:NodesAt w v l)(hu:NodesAt w u m)(hs:Small l)(hl:l.length≤19)(ho:l.Pairwise fun a b=>a.id<b.id)(ht:Small m)(hm:m.length≤19)(hp:m.Pairwise fun a b=>a.id<b.id): Calls Tryz.prog 19 #[v,u] w (Gives (.bool (eqNds l m)) w):=by
 have HV:=hY fun W (g:Grew w W)=>norm_strict v l W (hv.grew g) hs hl ho
 have HU:=hY fun W (g:Grew w W)=>norm_strict u m W (hu.grew g) ht hm hp
 clear hv hu hs ho ht hp hl hm;go_enter Tryz.func19,Tryz.ntmps19
 go_wp2_with fail
 refine(HV.o _ gw).mono ?_;rintro e w1 ⟨v1,rfl,hv1,R1,n1,rfl⟩;have HV1:=hY hv1;clear hv1
 go_wp2_with fail
 refine(HU.o _ gw).mono ?_;rintro e w1 ⟨v2,rfl,hv2,R2,n2,rfl⟩;have HV2:=hY hv2;clear hv2
 go_wp2_with fail
 refine(eqFnNodes_any _ _ l m _ (HV1.o.grew gw) (HV2.o.grew gw)).mono ?_;rintro e w1 ⟨rfl,R3,n3,rfl⟩;go_wp2;go_ret;exact⟨rfl,gw⟩
open Classical in
noncomputable def eqMf(a b:Gr.Mf): Bool:=decide (a=b)
structure OkMf (m:Gr.Mf):Prop where
 s:Small m.graph
 l:m.graph.length≤19
 o:m.graph.Pairwise fun a b=>a.id<b.id
 p:∀s∈m.plan,s.nd.frm.length≤1000∧s.nd.prog.length≤1000
open Classical in
theorem eqMf_iff(a b:Gr.Mf): eqMf a b=((a.epoch==b.epoch)&&((a.plans==b.plans)&&(decide (a.offs=b.offs)&&(eqNds a.graph b.graph&&(decide (a.ents=b.ents)&&(decide (a.out=b.out)&&eqBy eqSt a.plan b.plan)))))):=by
 have h1:=exact_iff a.plan b.plan;have h2:eqNds a.graph b.graph=true↔a.graph=b.graph:=by unfold eqNds;rw[decide_eq_true_eq]
 obtain⟨e1,p1,o1,g1,n1,x1,q1⟩:=a;obtain⟨e2,p2,o2,g2,n2,x2,q2⟩:=b;unfold eqMf;simp only at h1 h2 ⊢;rw[Bool.eq_iff_iff];simp only[Gr.Mf.mk.injEq,Bool.and_eq_true,decide_eq_true_eq,beq_iff_eq,h1,h2]
open Classical in
theorem packSameM_any(c d:MfC)(a b:Gr.Mf)(w:World)(ha:MfIs w c a)(hb:MfIs w d b)(oa:OkMf a)(ob:OkMf b): Calls Tryz.prog 26 #[.agg #[.int .i64 c.epoch,.int .i64 c.plans,.slice c.ao c.no c.co,.slice c.ag c.ng c.cg,.slice c.ae c.ne c.ce,.slice c.ax c.nx c.cx,.slice c.ap c.np c.cp],.agg #[.int .i64 d.epoch,.int .i64 d.plans,.slice d.ao d.no d.co,.slice d.ag d.ng d.cg,.slice d.ae d.ne d.ce,.slice d.ax d.nx d.cx,.slice d.ap d.np d.cp]] w (Gives (.bool (eqMf a b)) w):=by
 have hq:=eqMf_iff a b;have H1:=hY fun W (g:Grew w W)=>eqInts_any _ _ a.offs b.offs W (ha.o.grew g) (hb.o.grew g)
 have H2:=hY fun W (g:Grew w W)=>same_strict _ _ a.graph b.graph W (ha.g.grew g) (hb.g.grew g) oa.s oa.l oa.o ob.s ob.l ob.o
 have H3:=hY fun W (g:Grew w W)=>eqEns_any _ _ a.ents b.ents W (ha.e.grew g) (hb.e.grew g)
 have H4:=hY fun W (g:Grew w W)=>eqLns_any _ _ a.out b.out W (ha.x.grew g) (hb.x.grew g)
 have H5:=hY fun W (g:Grew w W)=>eqFnExact_any _ _ a.plan b.plan W (ha.p.grew g) (hb.p.grew g) oa.p ob.p
 have e1:=ha.epoch;have e2:=ha.plans;have f1:=hb.epoch;have f2:=hb.plans;obtain⟨ep,pl,ao,co,ag,cg,ae,ce,ax,cx,ap,cp,rfl⟩:=ha.lit;obtain⟨ep2,pl2,ao2,co2,ag2,cg2,ae2,ce2,ax2,cx2,ap2,cp2,rfl⟩:=hb.lit;simp only at e1 e2 f1 f2 H1 H2 H3 H4 H5;rw[e1,e2,f1,f2] at hq;generalize eqMf a b=q at *;clear ha hb oa ob e1 e2 f1 f2;generalize a.offs.length=l1 at *;generalize b.offs.length=m1 at *;generalize a.graph.length=l2 at *;generalize b.graph.length=m2 at *;generalize a.ents.length=l3 at *;generalize b.ents.length=m3 at *;generalize a.out.length=l4 at *;generalize b.out.length=m4 at *;generalize a.plan.length=l5 at *;generalize b.plan.length=m5 at *;show Calls Tryz.prog _ #[.agg #[.int .i64 ep,.int .i64 pl,.slice ao l1 co,.slice ag l2 cg,.slice ae l3 ce,.slice ax l4 cx,.slice ap l5 cp],.agg #[.int .i64 ep2,.int .i64 pl2,.slice ao2 m1 co2,.slice ag2 m2 cg2,.slice ae2 m3 ce2,.slice ax2 m4 cx2,.slice ap2 m5 cp2]] w _;generalize decide (a.offs=b.offs)=b1 at *;generalize eqNds a.graph b.graph=b2 at *;generalize decide (a.ents=b.ents)=b3 at *;generalize decide (a.out=b.out)=b4 at *;generalize eqBy eqSt a.plan b.plan=b5 at *;cases h1:(ep==ep2)
 ·have hq:q=false:=by rw[hq,h1];rfl
  have HQ:=hY hq;clear hq;go_enter Tryz.func26,Tryz.ntmps26;go_wp2;go_ret;exact⟨by rw[HQ.o];rfl,gw⟩
 rw[h1,Bool.true_and] at hq;cases h2:(pl==pl2)
 ·have hq:q=false:=by rw[hq,h2];rfl
  have HQ:=hY hq;clear hq;go_enter Tryz.func26,Tryz.ntmps26;go_wp2;go_ret;exact⟨by rw[HQ.o];rfl,gw⟩
 rw[h2,Bool.true_and] at hq;cases b1
 ·have hq:q=false:=by rw[hq];rfl
  have HQ:=hY hq;clear hq;go_enter Tryz.func26,Tryz.ntmps26
  go_wp2_with (first|(go_at_call 69;refine(H1.o _ gw).mono ?_;rintro e w1 ⟨rfl,R0,n0,rfl⟩))
  go_ret;exact⟨by rw[HQ.o];rfl,gw⟩
 rw[Bool.true_and] at hq;cases b2
 ·have hq:q=false:=by rw[hq];rfl
  have HQ:=hY hq;clear hq;go_enter Tryz.func26,Tryz.ntmps26
  go_wp2_with (first|(go_at_call 69;refine(H1.o _ gw).mono ?_;rintro e w1 ⟨rfl,R0,n0,rfl⟩)|(go_at_call 19;refine(H2.o _ gw).mono ?_;rintro e w1 ⟨rfl,R1,n1,rfl⟩))
  go_ret;exact⟨by rw[HQ.o];rfl,gw⟩
 rw[Bool.true_and] at hq;cases b3
 ·have hq:q=false:=by rw[hq];rfl
  have HQ:=hY hq;clear hq;go_enter Tryz.func26,Tryz.ntmps26
  go_wp2_with (first|(go_at_call 69;refine(H1.o _ gw).mono ?_;rintro e w1 ⟨rfl,R0,n0,rfl⟩)|(go_at_call 19;refine(H2.o _ gw).mono ?_;rintro e w1 ⟨rfl,R1,n1,rfl⟩)|(go_at_call 70;refine(H3.o _ gw).mono ?_;rintro e w1 ⟨rfl,R2,n2,rfl⟩))
  go_ret;exact⟨by rw[HQ.o];rfl,gw⟩
 rw[Bool.true_and] at hq;cases b4
 ·have hq:q=false:=by rw[hq];rfl
  have HQ:=hY hq;clear hq;go_enter Tryz.func26,Tryz.ntmps26
  go_wp2_with (first|(go_at_call 69;refine(H1.o _ gw).mono ?_;rintro e w1 ⟨rfl,R0,n0,rfl⟩)|(go_at_call 19;refine(H2.o _ gw).mono ?_;rintro e w1 ⟨rfl,R1,n1,rfl⟩)|(go_at_call 70;refine(H3.o _ gw).mono ?_;rintro e w1 ⟨rfl,R2,n2,rfl⟩)|(go_at_call 71;refine(H4.o _ gw).mono ?_;rintro e w1 ⟨rfl,R3,n3,rfl⟩))
  go_ret;exact⟨by rw[HQ.o];rfl,gw⟩
 rw[Bool.true_and] at hq;have HQ:=hY hq;clear hq;go_enter Tryz.func26,Tryz.ntmps26
 go_wp2_with (first|(go_at_call 69;refine(H1.o _ gw).mono ?_;rintro e w1 ⟨rfl,R0,n0,rfl⟩)|(go_at_call 19;refine(H2.o _ gw).mono ?_;rintro e w1 ⟨rfl,R1,n1,rfl⟩)|(go_at_call 70;refine(H3.o _ gw).mono ?_;rintro e w1 ⟨rfl,R2,n2,rfl⟩)|(go_at_call 71;refine(H4.o _ gw).mono ?_;rintro e w1 ⟨rfl,R3,n3,rfl⟩)|(go_at_call 72;refine(H5.o _ gw).mono ?_;rintro e w1 ⟨rfl,R4,n4,rfl⟩))
 go_ret;exact⟨by rw[HQ.o];rfl,gw⟩
end Go.Proofs.YtipgfjihdglocaaGreat
