import Derived.Test.YtipgfjihdglocaaGreatCw38
import Derived.Test.YtipgfjihdglocaaGreatCw39
import Derived.Test.YtipgfjihdglocaaGreatCw27
import Derived.Test.YtipgfjihdglocaaGreatCw5
import Derived.Test.YtipgfjihdglocaaGreatCw36
import Derived.Test.YtipgfjihdglocaaGreatCw21
import Derived.Test.YtipgfjihdglocaaGreatCw29
import Derived.Test.YtipgfjihdglocaaGreatCw25
import Derived.Test.YtipgfjihdglocaaGreatCw0
set_option linter.unusedSimpArgs false
set_option linter.unusedVariables false
set_option maxRecDepth 100000
set_option maxHeartbeats 64000000
namespace Go.Proofs.YtipgfjihdglocaaGreat
open Go.RowKit Ga
structure OkH (m:Gr.Mf):Prop where
 r:Gr.RightM fitsP m
 s:Small m.graph
 p:∀s∈m.plan,s.nd.frm.length≤100∧s.nd.prog.length≤1000
 o:m.out.length≤3000
 h8:∀n∈m.graph,n.route.length=8
 l:(Gr.putM putI m).length≤100000
theorem getM_back{m:Gr.Mf}(hr:Gr.RightM fitsP m)(h8:∀n∈m.graph,n.route.length=8): getMB (Gr.putM putI m)=(m,0):=by
 have h1:=(Gr.man_item codecI).put m [] (hr.okM fits_nil (fun p hp=>safe_fits hp) h8 (fun l hl=>putI_len l hl));rw[List.append_nil] at h1;unfold getMB;rw[h1];simp only;rw[show endE (([]:List UInt8),(0:Int)) true=0 from rfl,if_neg (by simp),if_pos (rightB_iff.2 hr)]
theorem MfOwn.low{base:Nat}{w:World}{c:MfC}{m:Gr.Mf}(h:MfOwn base w c m): MfOwn 0 w c m:=by
 obtain⟨lc,h1,h2⟩:=h.g;obtain⟨lp,h3,h4⟩:=h.p;have key:∀{c:NdC} {n:Gr.Nd},OwnsNd base w c n→OwnsNd 0 w c n:=fun h=>⟨OwnAt.low h.1 (Nat.zero_le _),OwnAt.low h.2 (Nat.zero_le _)⟩
 exact⟨h.epoch,h.plans,OwnAt.low h.o (Nat.zero_le _),⟨lc,OwnAt.low h1 (Nat.zero_le _),Rel.mono (fun _ _ h=>⟨h.1,key h.2⟩) h2⟩,OwnAt.low h.e (Nat.zero_le _),OwnAt.low h.x (Nat.zero_le _),⟨lp,OwnAt.low h3 (Nat.zero_le _),Rel.mono (fun _ _ h=>⟨h.1,key h.2⟩) h4⟩⟩
theorem MfOwn.grew{base:Nat}{w w':World}{c:MfC}{m:Gr.Mf}(h:MfOwn base w c m)(g:Grew w w'): MfOwn base w' c m:=h.leaves (T:=[]) (Leaves.grew g) (by simp[NoData])
def IsMf(m:Gr.Mf)(v:Value)(w:World): Prop:=∃c:MfC,v = .agg #[.int .i64 c.epoch,.int .i64 c.plans,.slice c.ao c.no c.co,.slice c.ag c.ng c.cg,.slice c.ae c.ne c.ce,.slice c.ax c.nx c.cx,.slice c.ap c.np c.cp]∧MfOwn 0 w c m
theorem IsMf.st(m:Gr.Mf): ∀v w w',IsMf m v w→Grew w w'→IsMf m v w':=fun _ _ _ ⟨c,h1,h2⟩ g=>⟨c,h1,h2.grew g⟩
theorem coOwn_any(c:MfC)(m:Gr.Mf)(w:World)(h:MfIs w c m)(ok:OkH m): Calls Tryz.prog 49 #[.agg #[.int .i64 c.epoch,.int .i64 c.plans,.slice c.ao c.no c.co,.slice c.ag c.ng c.cg,.slice c.ae c.ne c.ce,.slice c.ax c.nx c.cx,.slice c.ap c.np c.cp]] w fun e w'=>∃c':MfC,e = .returned (.agg #[.int .i64 c'.epoch,.int .i64 c'.plans,.slice c'.ao c'.no c'.co,.slice c'.ag c'.ng c'.cg,.slice c'.ae c'.ne c'.ce,.slice c'.ax c'.nx c'.cx,.slice c'.ap c'.np c'.cp])∧MfOwn 0 w' c' m∧Grew w w':=by
 have HP:=hY fun W (g:Grew w W)=>packMan_ok c m W (h.grew g) ok.s ok.p ok.o ok.r
 have HB:=hY (getM_back ok.r ok.h8);have HG:=hY fun W=>getManO_any (Gr.putM putI m) W ok.l
 rw[HB.o] at HG;generalize Gr.putM putI m=s at *;obtain⟨ep,pl,ao,no,co,ag,ng,cg,ae,ne,ce,ax,nx,cx,ap,np,cp⟩:=c;simp only at *;clear h ok HB;go_enter Tryz.func49,Tryz.ntmps49
 go_wp2_with (first
  | (go_at_call 36;refine(HP.o _ gw).mono ?_;rintro e w1 ⟨rfl,R1,n1,rfl⟩)
  | (go_at_call 40;refine(HG.o _).mono ?_;rintro e w2 ⟨⟨ep2,pl2,ao2,no2,co2,ag2,ng2,cg2,ae2,ne2,ce2,ax2,nx2,cx2,ap2,np2,cp2⟩,rfl,hm,R2,n2,rfl⟩;(have HM:=hY hm);clear hm))
 refine bodyPost_ret (v:=.agg #[.int .i64 ep2,.int .i64 pl2,.slice ao2 no2 co2,.slice ag2 ng2 cg2,.slice ae2 ne2 ce2,.slice ax2 nx2 cx2,.slice ap2 np2 cp2]) (by simp[results,Tryz.results49,go_sem]) rfl ⟨⟨ep2,pl2,ao2,no2,co2,ag2,ng2,cg2,ae2,ne2,ce2,ax2,nx2,cx2,ap2,np2,cp2⟩,rfl,?_,gw⟩;exact(((Twin.new 47 _ _ _).more R1 n1).more R2 n2).own HM.o.low (by simp[NoData]) |>.grew gw
def encMh(c:MfC): List Value:=[.int .i64 c.epoch,.int .i64 c.plans,.slice c.ao c.no c.co,.slice c.ag c.ng c.cg,.slice c.ae c.ne c.ce,.slice c.ax c.nx c.cx,.slice c.ap c.np c.cp]
theorem encMh_len(c:MfC): (encMh c).length=7:=rfl
theorem encMh_one(c:MfC): ∀u∈encMh c,u.oneCell'=true:=by intro u hu;simp[encMh] at hu;rcases hu with rfl|rfl|rfl|rfl|rfl|rfl|rfl<;>rfl
def HistAt(base:Nat)(W:World)(hv:Value)(ms:List Gr.Mf): Prop:=∃cs:List MfC,OwnAt base 47 7 encMh W hv cs∧Rel (MfOwn 0 W) cs ms
theorem HistAt.leaves{T:List TypeId}{W W':World}{base:Nat}{hv:Value}{ms:List Gr.Mf}(h:HistAt base W hv ms)(g:Leaves T W W')(hT:NoData T)(hM:47∉T): HistAt base W' hv ms:=by
 obtain⟨cs,h1,h2⟩:=h;exact⟨cs,g.own h1 hM,Rel.mono (fun _ _ q=>q.leaves g hT) h2⟩
theorem HistAt.grew{W W':World}{base:Nat}{hv:Value}{ms:List Gr.Mf}(h:HistAt base W hv ms)(g:Grew W W'): HistAt base W' hv ms:=h.leaves (T:=[]) (Leaves.grew g) (by simp[NoData]) (by simp)
theorem HistAt.at{W:World}{base:Nat}{hv:Value}{ms:List Gr.Mf}(h:HistAt base W hv ms): ∃a cap,hv = .slice a ms.length cap∧ms.length≤9223372036854775807∧∀k (hk:k<ms.length),∃b,a=some ⟨b,0,none⟩∧Pre b W∧∃c:MfC,MfOwn 0 W c ms[k]∧W.cell? ⟨b,k*7,none⟩=some (.int .i64 c.epoch)∧W.cell? ⟨b,k*7+1,none⟩=some (.int .i64 c.plans)∧W.cell? ⟨b,k*7+2,none⟩=some (.slice c.ao c.no c.co)∧W.cell? ⟨b,k*7+3,none⟩=some (.slice c.ag c.ng c.cg)∧W.cell? ⟨b,k*7+4,none⟩=some (.slice c.ae c.ne c.ce)∧W.cell? ⟨b,k*7+5,none⟩=some (.slice c.ax c.nx c.cx)∧W.cell? ⟨b,k*7+6,none⟩=some (.slice c.ap c.np c.cp):=by
 obtain⟨cs,h1,h2⟩:=h;have hl:=Rel.len h2;obtain⟨a,cap,e,hm,hx⟩:=OwnAt.rows h1 encMh_len;rw[hl] at e hm;refine⟨a,cap,e,by unfold maxLen at hm;omega,fun k hk=>?_⟩;have hkc:k<cs.length:=by omega
 obtain⟨b,off,hab,hc⟩:=hx (by intro q;rw[q] at hkc;simp at hkc)
 have h0:off=0:=by
  rcases h1.form with ⟨q,q2⟩|⟨b2,cap2,q,-⟩
  ·rw[q2] at hkc;simp at hkc
  ·rw[e,hab] at q;have q1:=(Value.slice.inj q).1;cases q1;rfl
 subst h0;have hg:=List.getElem?_eq_getElem hkc;have f:=fun j u hu=>hc k _ hg j u hu
 simp only[Nat.zero_add] at f;exact⟨b,hab,Pre.ofCell (f 0 _ rfl),cs[k],Rel.get h2 k _ _ hg (List.getElem?_eq_getElem hk),f 0 _ rfl,f 1 _ rfl,f 2 _ rfl,f 3 _ rfl,f 4 _ rfl,f 5 _ rfl,f 6 _ rfl⟩
theorem coManifest_any{W:World}{z base:Nat}{cs:Array Value}{hv:Value}{ms:List Gr.Mf}{m:Gr.Mf}(hz:W.heap[z]? = some (.cells cs 83))(h2:cs[2]? = some hv)(h:HistAt base W hv (ms++[m]))(ok:OkH m): Calls Tryz.prog 16 #[.pointer (some ⟨z,0,none⟩)] W fun e w'=>∃c':MfC,e = .returned (.agg #[.int .i64 c'.epoch,.int .i64 c'.plans,.slice c'.ao c'.no c'.co,.slice c'.ag c'.ng c'.cg,.slice c'.ae c'.ne c'.ce,.slice c'.ax c'.nx c'.cx,.slice c'.ap c'.np c'.cp])∧MfOwn 0 w' c' m∧Grew W w':=by
 have c2:=(cell_of (o:=2) hz).trans h2;have hb:Pre z W:=heap_lt hz;obtain⟨a,cap,rfl,hn,hx⟩:=h.at;obtain⟨b,rfl,hb2,c,hc,g0,g1,g2,g3,g4,g5,g6⟩:=hx ms.length (by simp);rw[List.getElem_concat_length rfl] at hc;have HO:=hY fun W' (g:Grew W W')=>coOwn_any c m W' (hc.is.grew g) ok
 rw[List.length_append,List.length_cons,List.length_nil] at *;simp only[Nat.zero_add] at *;generalize ms.length=n at *;have hn1:(n:Int)<9223372036854775807:=by omega
 have hn2:(n:Int)<(n:Int)+1:=by omega
 have hn3:(0:Int)≤n:=by omega
 obtain⟨ep,pl,ao,no,co,ag,ng,cg,ae,ne,ce,ax,nx,cx,ap,np,cp⟩:=c;simp only at *;clear h hx hc ok hz h2;go_enter Tryz.func16,Tryz.ntmps16
 go_wp2_with fail
 refine wp_region_seq 13 Tryz.mixed (by kernel_rfl) (by kernel_rfl) ?_
 iterate 12
  apply Seq.val
  focus
   rintro w1 u ⟨R1,n1,rfl⟩ hF;simp[moreFacts,Fact.more,Oper.deps,Region.binds,List.filter_cons,World.more_drew] at hF;simp[putFacts,Oper.deps,Region.binds,List.filter_cons,Region.dstOf,Fact.at,Act.put,World.more_drew];go_wp2;exact⟨gw,rfl,_,_,rfl,rfl,rfl⟩
 apply Seq.of (IsMf m) (IsMf.st _)
 focus
  rintro w1 u ⟨R1,n1,rfl⟩ hF;simp[moreFacts,Fact.more,Oper.deps,Region.binds,List.filter_cons,World.more_drew] at hF;simp[putFacts,Oper.deps,Region.binds,List.filter_cons,Region.dstOf,Fact.at,Act.put,World.more_drew]
  go_wp2_with (first
   | (go_at_call 49;refine(HO.o _ gw).mono ?_;rintro e w2 ⟨c2,rfl,hm,R3,n3,rfl⟩)
   )
  exact⟨gw,rfl,_,_,rfl,rfl,⟨c2,rfl,hm⟩⟩
 rintro u w1 ⟨R1,n1,rfl⟩ hF;simp[moreFacts,apartFacts,Fact.more,Fact.isNew,List.range_succ,World.more_drew] at hF;obtain⟨⟨ep2,pl2,ao2,no2,co2,ag2,ng2,cg2,ae2,ne2,ce2,ax2,nx2,cx2,ap2,np2,cp2⟩,hu,hm⟩:=hF;simp only at hu;simp[putFacts,Region.dstOf,Fact.at,Act.put,List.range_succ,World.more_drew];rw[hu];have HM:=hY hm;clear hu hm
 go_wp2_with fail
 refine bodyPost_ret (v:=.agg #[.int .i64 ep2,.int .i64 pl2,.slice ao2 no2 co2,.slice ag2 ng2 cg2,.slice ae2 ne2 ce2,.slice ax2 nx2 cx2,.slice ap2 np2 cp2]) (by simp[results,Tryz.results16,go_sem]) rfl ⟨⟨ep2,pl2,ao2,no2,co2,ag2,ng2,cg2,ae2,ne2,ce2,ax2,nx2,cx2,ap2,np2,cp2⟩,rfl,?_,gw⟩;exact((Twin.new 47 _ _ _).more R1 n1).own HM.o (by simp[NoData])
abbrev SlC:=Option Addr×Nat×Nat
abbrev SlC.v(x:SlC): Value:=.slice x.1 x.2.1 x.2.2
def encSl(x:SlC): List Value:=[x.v]
theorem encSl_len(c:SlC): (encSl c).length=1:=rfl
def WaitAt(W:World)(x:SlC)(p:List Gr.Stp): Prop:=PlOwn 0 W x.v p∧∀s∈p,smallS s
def QueueAt(base:Nat)(W:World)(qv:Value)(ps:List (List Gr.Stp)): Prop:=∃cs:List SlC,OwnAt base 34 1 encSl W qv cs∧Rel (WaitAt W) cs ps
theorem QueueAt.leaves{T:List TypeId}{W W':World}{base:Nat}{qv:Value}{ps:List (List Gr.Stp)}(h:QueueAt base W qv ps)(g:Leaves T W W')(hT:NoData T)(hM:34∉T): QueueAt base W' qv ps:=by
 obtain⟨cs,h1,h2⟩:=h;exact⟨cs,g.own h1 hM,Rel.mono (fun _ _ q=>⟨q.1.leaves g hT,q.2⟩) h2⟩
theorem QueueAt.grew{W W':World}{base:Nat}{qv:Value}{ps:List (List Gr.Stp)}(h:QueueAt base W qv ps)(g:Grew W W'): QueueAt base W' qv ps:=h.leaves (T:=[]) (Leaves.grew g) (by simp[NoData]) (by simp)
theorem QueueAt.at{W:World}{base:Nat}{qv:Value}{ps:List (List Gr.Stp)}(h:QueueAt base W qv ps): ∃a cap,qv = .slice a ps.length cap∧ps.length≤9223372036854775807∧∀k (hk:k<ps.length),∃b,a=some ⟨b,0,none⟩∧Pre b W∧∃x:SlC,WaitAt W x ps[k]∧W.cell? ⟨b,k,none⟩=some x.v:=by
 obtain⟨cs,h1,h2⟩:=h;have hl:=Rel.len h2;obtain⟨a,cap,e,hm,hx⟩:=OwnAt.rows h1 encSl_len;rw[hl] at e hm;refine⟨a,cap,e,by unfold maxLen at hm;omega,fun k hk=>?_⟩;have hkc:k<cs.length:=by omega
 obtain⟨b,off,hab,hc⟩:=hx (by intro q;rw[q] at hkc;simp at hkc)
 have h0:off=0:=by
  rcases h1.form with ⟨q,q2⟩|⟨b2,cap2,q,-⟩
  ·rw[q2] at hkc;simp at hkc
  ·rw[e,hab] at q;have q1:=(Value.slice.inj q).1;cases q1;rfl
 subst h0;have hg:=List.getElem?_eq_getElem hkc;have f:=hc k _ hg 0 _ rfl;simp only[Nat.zero_add,Nat.mul_one,Nat.add_zero] at f;exact⟨b,hab,Pre.ofCell f,cs[k],Rel.get h2 k _ _ hg (List.getElem?_eq_getElem hk),f⟩
theorem coField3(c:MfC)(w:World): (Instr.field 47 (.agg #[.int .i64 c.epoch,.int .i64 c.plans,.slice c.ao c.no c.co,.slice c.ag c.ng c.cg,.slice c.ae c.ne c.ce,.slice c.ax c.nx c.cx,.slice c.ap c.np c.cp]) 3).run Tryz.prog w = .ok (.slice c.ag c.ng c.cg) w:=by kernel_rfl
structure CoAt (w0 W:World) (z bk lg:Nat) (ms:List Gr.Mf) (m:Gr.Mf) (ps:List (List Gr.Stp)) (uv:Value) (pl:Bool) (last ref:Int):Prop where
 blk:∃hv qv,W.heap[z]? = some (.cells #[.pointer (some ⟨bk,0,none⟩),.pointer (some ⟨lg,0,none⟩),hv,qv,uv,.bool pl,.int .i64 last,.int .i64 ref] 83)∧HistAt w0.heap.size W hv (ms++[m])∧QueueAt w0.heap.size W qv ps
 ok:OkH m
 n:ps.length≤1000
 z0:w0.heap.size≤z
 g:Grew w0 W
theorem CoAt.grew{w0 W W':World}{z bk lg:Nat}{ms:List Gr.Mf}{m:Gr.Mf}{ps:List (List Gr.Stp)}{uv:Value}{pl:Bool}{last ref:Int}(h:CoAt w0 W z bk lg ms m ps uv pl last ref)(g:Grew W W'): CoAt w0 W' z bk lg ms m ps uv pl last ref:=by
 obtain⟨hv,qv,h1,h2,h3⟩:=h.blk;exact⟨⟨hv,qv,grew_heap g h1,h2.grew g,h3.grew g⟩,h.ok,h.n,h.z0,h.g.trans g⟩
theorem PlOwn.low{base:Nat}{w:World}{v:Value}{p:List Gr.Stp}(h:PlOwn base w v p): PlOwn 0 w v p:=by
 obtain⟨lp,h3,h4⟩:=h;exact⟨lp,OwnAt.low h3 (Nat.zero_le _),Rel.mono (fun _ _ h=>⟨h.1,⟨OwnAt.low h.2.1 (Nat.zero_le _),OwnAt.low h.2.2 (Nat.zero_le _)⟩⟩) h4⟩
theorem PlOwn.form{base:Nat}{w:World}{v:Value}{p:List Gr.Stp}(h:PlOwn base w v p): ∃a n c,v = .slice a n c:=by
 obtain⟨a,c,e⟩:=h.at.openC;exact⟨_,_,_,e.1⟩
theorem PlOwn.grew{base:Nat}{w w':World}{v:Value}{p:List Gr.Stp}(h:PlOwn base w v p)(g:Grew w w'): PlOwn base w' v p:=h.leaves (T:=[]) (Leaves.grew g) (by simp[NoData])
def QKeep(z:Nat)(W W':World): Prop:=∀qv,W.cell? ⟨z,3,none⟩=some qv→W.heap.size≤W'.heap.size∧(∀b,b<W.heap.size→b≠z→qv.ownBlock≠some b→W'.heap[b]? = W.heap[b]?)∧∃qv',W'.cell? ⟨z,3,none⟩=some qv'∧∀b,qv'.ownBlock=some b→qv.ownBlock=some b∨W.heap.size≤b
theorem QKeep.grew{z:Nat}{W W':World}(g:Grew W W'): QKeep z W W':=fun qv hq=>⟨g.below.size,fun b hb _ _=>g.below.block b hb,qv,cell_grew hq g,fun b hb=>.inl hb⟩
theorem sinkNew_any(w:World): Calls Tryz.prog 38 #[] w fun e w'=>∃bk mp:Nat,e = .returned (.pointer (some ⟨bk,0,none⟩))∧w'.heap[bk]? = some (.cells #[.slice none 0 0,.map (some mp),.int .i64 0] 155)∧Grew w w':=by
 have hmm:=@run_makeMap Tryz.prog;go_enter Tryz.func38,Tryz.ntmps38;go_wp2;go_ret;exact⟨_,_,rfl,heap_new_at _ _ _ (by simp[World.size_alloc]),gw⟩
theorem bookCommit_there{W:World}{bk:Nat}{lv mv v:Value}(h:W.heap[bk]? = some (.cells #[lv,mv,.int .i64 0] 155)): Calls Tryz.prog 104 #[.pointer (some ⟨bk,0,none⟩),.int .i64 0,v] W (Gives (.int .i64 13) W):=by
 have c2:=cell_of (o:=2) h;simp at c2;clear h;go_enter Tryz.func104,Tryz.ntmps104;go_wp2;go_ret;refine⟨rfl,?_⟩;exact gw
theorem coFollows_nil{W:World}{z:Nat}{cs:Array Value}{c:MfC}(hz:W.heap[z]? = some (.cells cs 83))(h2:cs[2]? = some (.slice none 0 0))(he:c.epoch=0)(hp:c.plans=0)(hx:c.nx=0)(hq:c.np=0)(hn:c.ne=0): Calls Tryz.prog 41 #[.pointer (some ⟨z,0,none⟩),.agg #[.int .i64 c.epoch,.int .i64 c.plans,.slice c.ao c.no c.co,.slice c.ag c.ng c.cg,.slice c.ae c.ne c.ce,.slice c.ax c.nx c.cx,.slice c.ap c.np c.cp]] W (Gives (.bool true) W):=by
 have c2:=(cell_of (o:=2) hz).trans h2;have hb:Pre z W:=heap_lt hz;obtain⟨ep,pl,ao,no,co,ag,ng,cg,ae,ne,ce,ax,nx,cx,ap,np,cp⟩:=c;simp only at he hp hx hq hn;subst he hp hx hq hn;clear hz h2;go_enter Tryz.func41,Tryz.ntmps41;go_wp2;go_ret;refine⟨rfl,?_⟩;exact gw
def IsOneM(c:MfC)(v:Value)(w:World): Prop:=∃b:Nat,v = .slice (some ⟨b,0,none⟩) 1 1∧∀j u,([c].flatMap encMh)[j]? = some u→w.cell? ⟨b,j,none⟩=some u
theorem IsOneM.st(c:MfC): ∀v w w',IsOneM c v w→Grew w w'→IsOneM c v w':=fun _ _ _ ⟨b,h1,h2⟩ g=>⟨b,h1,fun j u hu=>below_keeps g.below _ _ (h2 j u hu)⟩
def IsHs(base:Nat)(c:MfC)(v:Value)(w:World): Prop:=∃(b cap:Nat),v = .slice (some ⟨b,0,none⟩) 1 cap∧OwnAt base 47 7 encMh w v [c]
theorem IsHs.st(base:Nat)(c:MfC): ∀v w w',IsHs base c v w→Grew w w'→IsHs base c v w':=fun _ _ _ ⟨b,cap,h1,h2⟩ g=>⟨b,cap,h1,h2.grew g⟩
theorem infoMh:(Tryz.prog.info? 47).map (fun i=>(i.zero,i.size,i.bytes))=some (some (.agg #[.int .i64 0,.int .i64 0,.slice none 0 0,.slice none 0 0,.slice none 0 0,.slice none 0 0,.slice none 0 0]),7,136):=by kernel_rfl
theorem mh_at(W:World)(x:MfC)(t:TypeId)(b:Nat){c:Array Value}(hc:c=(encMh x).toArray)(hb:b=W.heap.size): ∀j u,(([x]:List MfC).flatMap encMh)[j]? = some u→(W.alloc (.cells c t)).cell? ⟨b,j,none⟩=some u:=by
 subst hc;intro j u hu;rw[new_cells W _ t b hb j];simpa using hu
theorem coHolds_first{w0 W:World}{z bk lg mp:Nat}{c:MfC}{m:Gr.Mf}(h1:W.heap[z]? = some (.cells #[.pointer (some ⟨bk,0,none⟩),.pointer (some ⟨lg,0,none⟩),.slice none 0 0,.slice none 0 0,.pointer none,.bool false,.int .i64 0,.int .i64 0] 83))
  (hk:W.heap[bk]? = some (.cells #[.slice none 0 0,.map (some mp),.int .i64 0] 155)) (hm:MfOwn 0 W c m) (he:c.epoch=0) (ok:OkH m) (hg:Grew w0 W) (hz:w0.heap.size≤z) :
  Calls Tryz.prog 42 #[.pointer (some ⟨z,0,none⟩),.agg #[.int .i64 c.epoch,.int .i64 c.plans,.slice c.ao c.no c.co,.slice c.ag c.ng c.cg,.slice c.ae c.ne c.ce,.slice c.ax c.nx c.cx,.slice c.ap c.np c.cp]] W fun e W'=>e = .returned (.tuple #[])∧CoAt w0 W' z bk lg [] m [] (.pointer none) false 0 0∧Leaves [83] W W':=by
 have c2:=cell_of (o:=2) h1;have f2:=frozen_of (o:=2) h1;simp at c2;have hb:Pre z W:=heap_lt h1;have H1:=hY h1;have HK:=hY hk;have HM:=hY hm;have HOK:=hY ok;have HG:=hY hg;have HZ:=hY hz;have HC:=hY (rfl:c=c);obtain⟨ep,pl,ao,no,co,ag,ng,cg,ae,ne,ce,ax,nx,cx,ap,np,cp⟩:=c;simp only at he;subst he;clear h1 hk hm ok hg hz;go_enter Tryz.func42,Tryz.ntmps42
 go_wp2_with fail
 refine wp_region_seq 8 Tryz.mixed (by kernel_rfl) (by kernel_rfl) ?_
 iterate 6
  apply Seq.val
  focus
   rintro w1 u ⟨R1,n1,rfl⟩ hF;simp[moreFacts,Fact.more,Oper.deps,Region.binds,List.filter_cons,World.more_drew] at hF;simp[putFacts,Oper.deps,Region.binds,List.filter_cons,Region.dstOf,Fact.at,Act.put,World.more_drew];go_wp2;exact⟨gw,rfl,_,_,rfl,rfl,rfl⟩
 apply Seq.of (IsOneM ⟨0,pl,ao,no,co,ag,ng,cg,ae,ne,ce,ax,nx,cx,ap,np,cp⟩) (IsOneM.st _)
 focus
  rintro w1 u ⟨R1,n1,rfl⟩ hF;simp[moreFacts,Fact.more,Oper.deps,Region.binds,List.filter_cons,World.more_drew] at hF;simp[putFacts,Oper.deps,Region.binds,List.filter_cons,Region.dstOf,Fact.at,Act.put,World.more_drew]
  go_wp2_with fail
  exact⟨gw,rfl,_,_,rfl,rfl,⟨_,rfl,mh_at _ _ _ _ rfl (by simp[go_sem])⟩⟩
 apply Seq.of (IsHs w0.heap.size ⟨0,pl,ao,no,co,ag,ng,cg,ae,ne,ce,ax,nx,cx,ap,np,cp⟩) (IsHs.st _ _)
 focus
  rintro w1 u ⟨R1,n1,rfl⟩ hF;simp[moreFacts,Fact.more,Oper.deps,Region.binds,List.filter_cons,World.more_drew] at hF;simp[putFacts,Oper.deps,Region.binds,List.filter_cons,Region.dstOf,Fact.at,Act.put,World.more_drew];obtain⟨b9,hu,hb9⟩:=hF;rw[hu];(have HB9:=hY hb9);clear hb9 hu
  go_wp2_with (first
   | (at_builtin;go_loud (refine wpList_own1 rfl (.tmp 8) (.tmp 10) 60 _ _ _ b9 ⟨0,pl,ao,no,co,ag,ng,cg,ae,ne,ce,ax,nx,cx,ap,np,cp⟩ rfl Tryz.underlying60 infoMh rfl (by decide) encMh_len encMh_one rfl (OwnAt.nil _) (Grew.refl _) rfl (fun j u hu=>HB9.o j u (by simpa using hu)) (by simp) (by decide) ?_);intro v7 R7 N7 ho7;obtain⟨b8,c8,rfl⟩:=own_some' ho7 (by simp);(have HX9:Hid (IsHs w0.heap.size ⟨0,pl,ao,no,co,ag,ng,cg,ae,ne,ce,ax,nx,cx,ap,np,cp⟩ _ _):=hY ⟨b8,c8,rfl,OwnAt.low ho7 (HG.o.trans gw).below.size⟩);clear ho7)
   )
  exact⟨gw,rfl,_,_,rfl,rfl,HX9.o⟩
 rintro u w1 ⟨R1,n1,rfl⟩ hF;simp[moreFacts,apartFacts,Fact.more,Fact.isNew,List.range_succ,World.more_drew] at hF;obtain⟨-,b8,c8,hu,ho8⟩:=hF;simp[putFacts,Region.dstOf,Fact.at,Act.put,List.range_succ,World.more_drew];rw[hu];rw[hu] at ho8;have HO8:=hY ho8;clear hu ho8
 go_wp2_with fail
 have e2:=set_blk (o:=2) (v:=(.slice (some ⟨b8,0,none⟩) 1 c8)) H1.o rfl;have hl2:=(Leaves.refl [83] W).set (o:=2) (v:=(.slice (some ⟨b8,0,none⟩) 1 c8)) H1.o (by simp);have ht2:Twin 83 W (W.setCell ⟨z,2,none⟩ (.slice (some ⟨b8,0,none⟩) 1 c8)):=⟨hl2,by simp[World.size_setCell]⟩;have hg2:=HG.o.set (o:=2) HZ.o (.slice (some ⟨b8,0,none⟩) 1 c8);clear c2 f2 hb;obtain⟨bx,hbx⟩:∃bx:Obj,(.cells #[.int .i64 0,.int .i64 pl,.slice ao no co,.slice ag ng cg,.slice ae ne ce,.slice ax nx cx,.slice ap np cp] 47)=bx:=⟨_,rfl⟩;rw[hbx] at HO8;rw[hbx];generalize W.setCell ⟨z,2,none⟩ (.slice (some ⟨b8,0,none⟩) 1 c8)=WS at *;have ho9:=((ht2.alloc bx).more R1 n1).1.own HO8.o (by decide);have hb9:(WS.alloc bx).heap[W.heap.size]? = some bx:=heap_new_at _ _ _ ht2.2;have hz9:=grew_heap (gw:Grew (WS.alloc bx) ((WS.alloc bx).more R1 n1)) (heap_alloc' e2 bx);have hk9:=grew_heap (gw:Grew (WS.alloc bx) ((WS.alloc bx).more R1 n1)) (heap_alloc' (hl2.at HK.o (by decide)) bx);have hg9:Grew w0 ((WS.alloc bx).more R1 n1):=hg2.trans gw;have hl9:Leaves [83] W ((WS.alloc bx).more R1 n1):=hl2.trans (Leaves.grew gw);have hm9:=HM.o.leaves hl9 (by simp[NoData]);have hb9:=grew_heap (gw:Grew (WS.alloc bx) ((WS.alloc bx).more R1 n1)) hb9;obtain⟨tb,htb⟩:∃tb,W.heap.size=tb:=⟨_,rfl⟩;rw[htb] at hb9 ⊢;clear htb ht2 hl2 hg2 e2;generalize (WS.alloc bx).more R1 n1=WB at *;rw[←hbx] at hb9;clear hbx;have HZ9:=hY hz9;have HK9:=hY hk9;have HO9:=hY ho9;have HG9:=hY hg9;have HL9:=hY hl9;have HM9:=hY hm9;have c6:=cell_of (o:=6) hz9;have f6:=frozen_of (o:=6) hz9;have t0:=cell_of (o:=0) hb9;simp at c6 t0;have hbz:Pre z WB:=heap_lt hz9;have hbt:Pre tb WB:=heap_lt hb9;have HB9:=hY hb9;clear hz9 hk9 ho9 hg9 hl9 hm9 hb9;have hmx:=run_max Tryz.prog;refine wp_region_seq 8 Tryz.mixed (by kernel_rfl) (by kernel_rfl) ?_
 iterate 8
  apply Seq.val
  focus
   rintro w1 u ⟨R1,n1,rfl⟩ hF;simp[moreFacts,Fact.more,Oper.deps,Region.binds,List.filter_cons,World.more_drew] at hF;simp[putFacts,Oper.deps,Region.binds,List.filter_cons,Region.dstOf,Fact.at,Act.put,World.more_drew];go_wp2;exact⟨gw,rfl,_,_,rfl,rfl,rfl⟩
 rintro u w1 ⟨R1,n1,rfl⟩ hF;clear hF;simp[putFacts,Region.dstOf,Fact.at,Act.put,List.range_succ,World.more_drew]
 go_wp2_with fail
 have e6:=set_blk (o:=6) (v:=.int .i64 0) HZ9.o rfl;have hl6:=(Leaves.refl [83] WB).set (o:=6) (v:=.int .i64 0) HZ9.o (by simp);have hg6:=HG9.o.set (o:=6) HZ.o (.int .i64 0);clear c6 f6 t0 hbz hbt hmx;generalize WB.setCell ⟨z,6,none⟩ (.int .i64 0)=WC at *;have hb6:=hl6.at HB9.o (by decide);have c0:=cell_of (o:=0) e6;have t0:=cell_of (o:=0) hb6;have t5:=cell_of (o:=5) hb6;simp at c0 t0 t5;have hbz:Pre z WC:=heap_lt e6;have hbt:Pre tb WC:=heap_lt hb6;have HE6:=hY e6;have HL6:=hY hl6;have HG6:=hY hg6;have HCM:=hY fun v W' (g:Grew WC W')=>bookCommit_there (v:=v) (grew_heap g (hl6.at HK9.o (by decide)))
 clear e6 hl6 hg6 hb6;refine wp_region_seq 8 Tryz.mixed (by kernel_rfl) (by kernel_rfl) ?_
 iterate 8
  apply Seq.val
  focus
   rintro w1 u ⟨R1,n1,rfl⟩ hF;simp[moreFacts,Fact.more,Oper.deps,Region.binds,List.filter_cons,World.more_drew] at hF;simp[putFacts,Oper.deps,Region.binds,List.filter_cons,Region.dstOf,Fact.at,Act.put,World.more_drew];go_wp2;exact⟨gw,rfl,_,_,rfl,rfl,rfl⟩
 rintro u w1 ⟨R1,n1,rfl⟩ hF;clear hF;simp[putFacts,Region.dstOf,Fact.at,Act.put,List.range_succ,World.more_drew]
 go_wp2_with (go_at_call 104;refine(HCM.o _ _ gw).mono ?_;rintro e w5 ⟨rfl,R5,n5,rfl⟩)
 have hT:NoData [83]:=by simp[NoData]
 refine bodyPost_end (v:=.tuple #[]) (results_none rfl _ _ _) rfl ⟨rfl,⟨⟨_,_,grew_heap gw HE6.o,⟨[_],OwnAt.grew (HL6.o.own HO9.o (by decide)) gw,(HM9.o.leaves HL6.o hT).grew gw,trivial⟩,[],OwnAt.nil _,trivial⟩,HOK.o,by simp,HZ.o,HG6.o.trans gw⟩,(HL9.o.trans HL6.o).trans (Leaves.grew gw)⟩
theorem first_rightM{g:List Gr.Nd}(h:Gr.RightR g): Gr.RightM fitsP (firstM g):=rightB_iff.1 (first_right h)
theorem first_h8{g:List Gr.Nd}(h:Gr.RightR g)(h8:∀n∈g,n.route.length=8): ∀n∈(firstM g).graph,n.route.length=8:=fun n hn=>h8 n ((Gr.normG_mem h.ids h.r7 n).1 hn)
theorem first_len{g:List Gr.Nd}(h:Gr.RightR g)(h8:∀n∈g,n.route.length=8): (Gr.putM putI (firstM g)).length≤4000:=by
 have hr:=first_rightM h;obtain⟨ho1,ho3⟩:=offs_len hr (first_h8 h h8);have h1:(Gr.putG putI (firstM g).graph).length≤3000:=putG_len hr.gr (first_h8 h h8);rw[putM_eq];unfold Gr.putG at h1;rw[graph_self hr] at h1;have e1:(firstM g).ents=[]:=rfl;have e2:(firstM g).out=[]:=rfl;have e3:(firstM g).plan=[]:=rfl;rw[e1,e2,e3,planBy_nil];simp only[List.length_append,Oc.bes_len,Oc.be_len,List.length_cons,List.length_nil,List.flatMap_nil] at h1 ⊢;omega
theorem first_okH{g:List Gr.Nd}(h:Gr.RightR g)(hs:Small g)(h8:∀n∈g,n.route.length=8): OkH (firstM g) :=
 ⟨first_rightM h,small_norm h hs,(fun s hs=>by cases hs),Nat.zero_le _,first_h8 h h8,by have:=first_len h h8;omega⟩
structure UnderAt (base:Nat) (W:World) (bk lg x:Nat) (cap:Int) (ls:List (List UInt8)) (last:List UInt8) (lines:Value) (mp:Nat) (ep:Int):Prop where
 book:W.heap[bk]? = some (.cells #[lines,.map (some mp),.int .i64 ep] 155)
 log:∃av,LogAt base W lg x av ls
 disk:DiskAt W x last (.slice none 0 0) [] cap
theorem coOpen_new{w0 W:World}{x:Nat}{cap:Int}{v:Value}{g:List Gr.Nd}(hd:DiskAt W x [] (.slice none 0 0) [] cap)(hv:∀W',Leaves [91] W W'→Grew w0 W'→NodesAt W' v g)(hs:Small g)(hr:Gr.RightR g)(h8:∀n∈g,n.route.length=8)(hg:Grew w0 W)(hx:w0.heap.size≤x)(hc:0≤cap∧cap≤16777216)(hl:((Gr.putM putI (firstM g)).length:Int)+8≤cap):
  Calls Tryz.prog 8 #[.pointer (some ⟨x,0,none⟩),v] W fun e W'=>∃z bk lg,e = .returned (.tuple #[.pointer (some ⟨z,0,none⟩),.int .i64 0])∧CoAt w0 W' z bk lg [] (firstM g) [] (.pointer none) false 0 0:=by
 have HLO:=hY (logOpen_nil w0 hd hg hx);have hsl:=first_len hr h8;have HOK:=hY (first_okH hr hs h8);have HV:=hY hv;have HFI:=hY fun W' (hn:NodesAt W' v g)=>first_any v g W' hn hs
 have HRR:=hY hr;have HX:=hY hx;have HPM:=hY fun(c:MfC) W' (h:MfIs W' c (firstM g))=>packMan_ok c (firstM g) W' h HOK.o.s HOK.o.p HOK.o.o HOK.o.r
 have HGM:=hY fun W'=>getManO_any (Gr.putM putI (firstM g)) W' HOK.o.l
 rw[getM_back HOK.o.r HOK.o.h8] at HGM;obtain⟨s,hse⟩:∃s,Gr.putM putI (firstM g)=s:=⟨_,rfl⟩;rw[hse] at hsl hl HPM HGM;have HSL:=hY hsl;have HL:=hY hl;have HC:=hY hc;clear hse hsl hl hc hd hv hs hr h8 hg hx;go_enter Tryz.func8,Tryz.ntmps8
 go_wp2_with (first
  | (go_at_call 33;refine HLO.o.mono ?_;rintro e wA ⟨y,rfl,hy,hla,hda,hlv,hga⟩;(have HY:=hY hy);(have HLA:=hY hla);(have HDA:=hY hda);(have HLV:=hY hlv);(have HGA:=hY hga);clear hy hla hda hlv hga)
  | (go_at_call 34;refine(logLen_any (HLA.o)).mono ?_;rintro e w1 ⟨rfl,R1,n1,rfl⟩)
  | (go_at_call 35;refine(HFI.o _ (HV.o _ (HLV.o.trans (Leaves.grew gw)) (HGA.o.trans gw))).mono ?_;rintro e w2 ⟨h9,-,R2,n2,rfl⟩;obtain⟨ao,co,ag,cg,rfl,hi9,hn9⟩:=h9 HRR.o;(have HI9:=hY hi9);(have HN9:=hY hn9);clear h9 hi9 hn9))
 refine(HPM.o ⟨0,0,ao,(parOf g).toNat,co,ag,(Gr.normG g).length,cg,none,0,0,none,0,0,none,0,0⟩ _ ⟨rfl,rfl,HI9.o.grew gw,HN9.o.grew gw,RowsAt.nil,RowsAt.nil,StepsAt.nil _⟩).mono ?_;rintro e w3 ⟨rfl,R3,n3,rfl⟩
 go_wp2_with (first
  | (go_at_call 37;refine(logAppend_any w0 s (⟨grew_heap gw HLA.o.blk,HLA.o.own.grew gw⟩) (HDA.o.grew gw) (HGA.o.trans gw) HX.o HY.o HC.o (by have:=HL.o;simp;omega) (by have:=HSL.o;simp;omega) (by simp)).mono ?_;rintro e wB ⟨rfl,⟨av,hlb⟩,-,hlv2,hgb⟩;(have HLB:=hY hlb);(have HLV2:=hY hlv2);(have HGB:=hY hgb);clear hlb hlv2 hgb)
  | (go_at_call 38;refine(sinkNew_any _).mono ?_;rintro e w4 ⟨bk,mp,rfl,hbk,R4,n4,rfl⟩;(have HBK:=hY hbk);clear hbk)
  | (go_at_call 39;refine(logAll_any (⟨grew_heap gw HLB.o.blk,HLB.o.own.grew gw⟩:LogAt w0.heap.size _ y x av ([]++[s])) (by simp)).mono ?_;rintro e w5 ⟨v5,rfl,ho5,R5,n5,rfl⟩;obtain⟨b5,c5,rfl⟩:=own_some' ho5 (by simp);(have HO5:=hY ho5);clear ho5))
 have hzc:(((wB.more R4 n4).alloc (.cells #[.pointer (some ⟨bk,0,none⟩),.pointer (some ⟨y,0,none⟩),.slice none 0 0,.slice none 0 0,.pointer none,.bool false,.int .i64 0,.int .i64 0] 83)).more R5 n5).heap[wB.heap.size+R4.size]? = some (.cells #[.pointer (some ⟨bk,0,none⟩),.pointer (some ⟨y,0,none⟩),.slice none 0 0,.slice none 0 0,.pointer none,.bool false,.int .i64 0,.int .i64 0] 83):=grew_heap (gw:Grew ((wB.more R4 n4).alloc (.cells #[.pointer (some ⟨bk,0,none⟩),.pointer (some ⟨y,0,none⟩),.slice none 0 0,.slice none 0 0,.pointer none,.bool false,.int .i64 0,.int .i64 0] 83)) _) (heap_new_at _ _ _ (by simp[World.more_size]));have hbk:(((wB.more R4 n4).alloc (.cells #[.pointer (some ⟨bk,0,none⟩),.pointer (some ⟨y,0,none⟩),.slice none 0 0,.slice none 0 0,.pointer none,.bool false,.int .i64 0,.int .i64 0] 83)).more R5 n5).heap[bk]? = _:=grew_heap (gw:Grew (wB.more R4 n4) _) HBK.o;have hgl:Grew w0 (((wB.more R4 n4).alloc (.cells #[.pointer (some ⟨bk,0,none⟩),.pointer (some ⟨y,0,none⟩),.slice none 0 0,.slice none 0 0,.pointer none,.bool false,.int .i64 0,.int .i64 0] 83)).more R5 n5):=HGB.o.trans gw;have hz0:w0.heap.size≤wB.heap.size+R4.size:=Nat.le_trans HGB.o.below.size (Nat.le_add_right _ _)
 have hs5:(((wB.more R4 n4).alloc (.cells #[.pointer (some ⟨bk,0,none⟩),.pointer (some ⟨y,0,none⟩),.slice none 0 0,.slice none 0 0,.pointer none,.bool false,.int .i64 0,.int .i64 0] 83)).more R5 n5).cell? ⟨b5,0,none⟩=some (.string ⟨s.toArray⟩):=by
  obtain⟨a6,c6,e6,-,hx⟩:=OwnAt.rows HO5.o encS_len;cases e6;obtain⟨b6,off,e7,hx⟩:=hx (by simp);cases e7;exact hx 0 s rfl 0 _ rfl
 obtain⟨z,hz⟩:∃z,wB.heap.size+R4.size=z:=⟨_,rfl⟩;rw[hz] at hzc hz0 ⊢;generalize ((wB.more R4 n4).alloc (.cells #[.pointer (some ⟨bk,0,none⟩),.pointer (some ⟨y,0,none⟩),.slice none 0 0,.slice none 0 0,.pointer none,.bool false,.int .i64 0,.int .i64 0] 83)).more R5 n5=WL at *;have HZC:=hY hzc;have HBL:=hY hbk;have HGL:=hY hgl;have HZ0:=hY hz0;have HS5:=hY hs5;clear hzc hbk hgl hz0 hs5 hz
 go_loopg [55] 1 (fun gg s55 wr=>(s55 = .int .i64 0∧gg=1∧Hid (Grew WL wr))∨(s55 = .int .i64 1∧Hid (CoAt w0 wr z bk y [] (firstM g) [] (.pointer none) false 0 0)))
 case atStart=>exact .inl ⟨rfl,rfl,hY (Grew.refl _)⟩
 case round =>
  rename World=>wa;rcases hrel with ⟨rfl,rfl,HG⟩|⟨rfl,HCO⟩
  ·have h5:=cell_grew HS5.o HG.o;have hb5:=Pre.ofCell h5
   go_wp2_with (first
    | (go_at_call 40;refine(HGM.o _).mono ?_;rintro e w6 ⟨⟨ep2,pl2,ao2,no2,co2,ag2,ng2,cg2,ae2,ne2,ce2,ax2,nx2,cx2,ap2,np2,cp2⟩,rfl,hm,R6,n6,rfl⟩;obtain rfl:ep2=0:=hm.epoch.symm;obtain rfl:pl2=0:=hm.plans.symm;(obtain rfl:ne2=0:=by obtain⟨_,_,e⟩:=(OwnAt.rows hm.e encEn_len).len;exact(Value.slice.inj e).2.1);(obtain rfl:nx2=0:=by obtain⟨_,_,e⟩:=(OwnAt.rows hm.x encLn_len).len;exact(Value.slice.inj e).2.1);(obtain rfl:np2=0:=by obtain⟨_,_,e,-⟩:=hm.is.p.openC;exact(Value.slice.inj e).2.1);(have HM:=hY hm.low);clear hm)
    | (go_at_call 41;refine(coFollows_nil (c:=⟨0,0,ao2,no2,co2,ag2,ng2,cg2,ae2,0,ce2,ax2,0,cx2,ap2,0,cp2⟩) (grew_heap (HG.o.trans gw) HZC.o) rfl rfl rfl rfl rfl rfl).mono ?_;rintro e w7 ⟨rfl,R7,n7,rfl⟩)
    | (go_at_call 42;refine(coHolds_first (w0:=w0) (c:=⟨0,0,ao2,no2,co2,ag2,ng2,cg2,ae2,0,ce2,ax2,0,cx2,ap2,0,cp2⟩) (grew_heap (HG.o.trans gw) HZC.o) (grew_heap (HG.o.trans gw) HBL.o) (HM.o.grew gw) rfl HOK.o (HGL.o.trans (HG.o.trans gw)) HZ0.o).mono ?_;rintro e w8 ⟨rfl,hco,-⟩;(have HCO:=hY hco);clear hco))
   go_roundg 0
   case measure=>omega
   case rel=>exact .inr ⟨by go_num,hY (HCO.o.grew gw)⟩
  ·go_wp2;go_ret2;exact⟨z,bk,y,rfl,HCO.o.grew gw⟩
def IsNd(g:List Gr.Nd)(v:Value)(w:World): Prop:=NodesAt w v g
theorem IsNd.st(g:List Gr.Nd): ∀v w w',IsNd g v w→Grew w w'→IsNd g v w':=fun _ _ _ h g=>NodesAt.grew h g
structure GaAt (W:World) (x b n:Nat) (g:List Gr.Nd) (ep:Int) (m:List (Who×AkC)):Prop where
 ga:GatherAt W x b n g ep m
 ow:∃v lc,W.heap[x]? = some (.cells #[v,.int .i64 ep,.map (some b)] 176)∧NodesOwn 0 W v lc∧NodesIn 0 W lc g
theorem MapAt.leaves{κ ν:Type}{S:MSpec κ ν}{T:List TypeId}{W W':World}{b n:Nat}{m:List (κ×ν)}(h:MapAt S W b n m)(g:Leaves T W W'): MapAt S W' b n m:=by
 refine h.same ?_;obtain⟨D,⟨es,c,h1,-⟩,-⟩:=h;rw[h1];exact g b _ h1 fun c t f e=>by cases e
theorem GaAt.leaves{T:List TypeId}{W W':World}{x b n:Nat}{g:List Gr.Nd}{ep:Int}{m:List (Who×AkC)}(h:GaAt W x b n g ep m)(q:Leaves T W W')(hT:NoData T)(hG:176∉T): GaAt W' x b n g ep m:=by
 obtain⟨v,lc,h1,h2,h3⟩:=h.ow;have h1':=q.at h1 hG;have h2':NodesOwn 0 W' v lc:=q.own h2 hT.2.2.1;have h3':=q.nodes h3 hT.1 hT.2.1;exact⟨⟨⟨v,h1',h3'.at h2'⟩,h.ga.map.leaves q,h.ga.small,h.ga.len,h.ga.so,h.ga.right⟩,v,lc,h1',h2',h3'⟩
theorem GaAt.grew{W W':World}{x b n:Nat}{g:List Gr.Nd}{ep:Int}{m:List (Who×AkC)}(h:GaAt W x b n g ep m)(q:Grew W W'): GaAt W' x b n g ep m:=h.leaves (T:=[]) (Leaves.grew q) (by simp[NoData]) (by simp)
def IsGa(base:Nat)(g:List Gr.Nd)(ep:Int)(v:Value)(w:World): Prop:=∃x b:Nat,v = .pointer (some ⟨x,0,none⟩)∧GaAt w x b 0 g ep []∧base≤x∧base≤b
def IsGt(base:Nat)(g:List Gr.Nd)(ep:Int)(v:Value)(w:World): Prop:=∃x b:Nat,v = .tuple #[.pointer (some ⟨x,0,none⟩),.int .i64 0]∧GaAt w x b 0 g ep []∧base≤x∧base≤b
theorem IsGa.st(base:Nat)(g:List Gr.Nd)(ep:Int): ∀v w w',IsGa base g ep v w→Grew w w'→IsGa base g ep v w':=fun _ _ _ ⟨x,b,h1,h2,h3⟩ q=>⟨x,b,h1,h2.grew q,h3⟩
theorem IsGt.st(base:Nat)(g:List Gr.Nd)(ep:Int): ∀v w w',IsGt base g ep v w→Grew w w'→IsGt base g ep v w':=fun _ _ _ ⟨x,b,h1,h2,h3⟩ q=>⟨x,b,h1,h2.grew q,h3⟩
theorem coBegin_any{w0 W:World}{z bk lg:Nat}{ms:List Gr.Mf}{m:Gr.Mf}{ps:List (List Gr.Stp)}{pl:Bool}{last ref:Int}(h:CoAt w0 W z bk lg ms m ps (.pointer none) pl last ref)(hl:0≤last∧last≤2000000000):
  Calls Tryz.prog 13 #[.pointer (some ⟨z,0,none⟩)] W fun e W'=>e = .returned (.tuple #[.int .i64 (last+1),.bool (decide (0<ps.length)),.int .i64 0])∧∃x b,CoAt w0 W' z bk lg ms m ps (.pointer (some ⟨x,0,none⟩)) (decide (0<ps.length)) (last+1) ref∧GaAt W' x b 0 (Gr.normG m.graph) (last+1) []∧w0.heap.size≤x∧w0.heap.size≤b∧Leaves [83] W W'∧W.heap.size≤b:=by
 have H:=hY h;obtain⟨hv,qv,h1,h2,h3⟩:=h.blk;have hb:Pre z W:=heap_lt h1;have c3:=cell_of (o:=3) h1;have c4:=cell_of (o:=4) h1;have c5:=cell_of (o:=5) h1;have c6:=cell_of (o:=6) h1;have f4:=frozen_of (o:=4) h1;have f5:=frozen_of (o:=5) h1;have f6:=frozen_of (o:=6) h1;simp at c3 c4 c5 c6;have HM:=hY fun W' (g:Grew W W')=>coManifest_any (grew_heap g h1) rfl (h2.grew g) h.ok
 have HN:=hY fun v W' (hn:NodesAt W' v m.graph)=>newO_any v m.graph (last+1) W' hn h.ok.s h.ok.r.gr (by omega) (by omega)
 obtain⟨aq,cq,rfl,hn,-⟩:=h3.at;have hfld:=coField3;have hl1:last+1≤9223372036854775807:=by omega
 have hl2 : -9223372036854775808≤last+1:=by omega
 have HB:=hY h1;have HB2:=hY h2;have HB3:=hY h3;clear h h1 h2 h3 hl;go_enter Tryz.func13,Tryz.ntmps13
 go_wp2_with fail
 refine wp_region_seq 14 Tryz.mixed (by kernel_rfl) (by kernel_rfl) ?_
 iterate 1
  apply Seq.val
  focus
   rintro w1 u ⟨R1,n1,rfl⟩ hF;simp[moreFacts,Fact.more,Oper.deps,Region.binds,List.filter_cons,World.more_drew] at hF;simp[putFacts,Oper.deps,Region.binds,List.filter_cons,Region.dstOf,Fact.at,Act.put,World.more_drew];go_wp2;exact⟨gw,rfl,_,_,rfl,rfl,rfl⟩
 apply Seq.of (IsMf m) (IsMf.st _)
 focus
  rintro w1 u ⟨R1,n1,rfl⟩ hF;simp[moreFacts,Fact.more,Oper.deps,Region.binds,List.filter_cons,World.more_drew] at hF;simp[putFacts,Oper.deps,Region.binds,List.filter_cons,Region.dstOf,Fact.at,Act.put,World.more_drew]
  go_wp2_with (first
   | (go_at_call 16;refine(HM.o _ gw).mono ?_;rintro e w2 ⟨c2,rfl,hm,R3,n3,rfl⟩)
   )
  exact⟨gw,rfl,_,_,rfl,rfl,⟨c2,rfl,hm⟩⟩
 apply Seq.of (IsNd m.graph) (IsNd.st _)
 focus
  rintro w1 u ⟨R1,n1,rfl⟩ hF;simp[moreFacts,Fact.more,Oper.deps,Region.binds,List.filter_cons,World.more_drew] at hF;simp[putFacts,Oper.deps,Region.binds,List.filter_cons,Region.dstOf,Fact.at,Act.put,World.more_drew];obtain⟨c2,hu,hm⟩:=hF;rw[hu]
  go_wp2_with fail
  exact⟨gw,rfl,_,_,rfl,rfl,hm.is.g⟩
 iterate 5
  apply Seq.val
  focus
   rintro w1 u ⟨R1,n1,rfl⟩ hF;simp[moreFacts,Fact.more,Oper.deps,Region.binds,List.filter_cons,World.more_drew] at hF;simp[putFacts,Oper.deps,Region.binds,List.filter_cons,Region.dstOf,Fact.at,Act.put,World.more_drew];go_wp2;exact⟨gw,rfl,_,_,rfl,rfl,rfl⟩
 apply Seq.of (IsGt W.heap.size (Gr.normG m.graph) (last+1)) (IsGt.st _ _ _)
 focus
  rintro w1 u ⟨R1,n1,rfl⟩ hF;simp[moreFacts,Fact.more,Oper.deps,Region.binds,List.filter_cons,World.more_drew] at hF;simp[putFacts,Oper.deps,Region.binds,List.filter_cons,Region.dstOf,Fact.at,Act.put,World.more_drew]
  (have HF:=hY hF);clear hF
  go_wp2_with (first
   | (go_at_call 48;refine(HN.o _ _ HF.o.1).mono ?_;rintro e w2 ⟨x9,b9,rfl,⟨v9,lc9,q1,q2,q3⟩,hga,hx8,hb8,R3,n3,rfl⟩;(have hg9:GaAt _ x9 b9 0 _ _ _:=⟨hga,v9,lc9,q1,OwnAt.low q2 (Nat.zero_le _),Rel.mono (fun _ _ h=>⟨h.1,⟨OwnAt.low h.2.1 (Nat.zero_le _),OwnAt.low h.2.2 (Nat.zero_le _)⟩⟩) q3⟩);(have hx9:=Nat.le_trans (Grew.below (gw:Grew W (W.more R1 n1))).size hx8);(have hb9:=Nat.le_trans (Grew.below (gw:Grew W (W.more R1 n1))).size hb8))
   )
  exact⟨gw,rfl,_,_,rfl,rfl,⟨x9,b9,rfl,hg9,hx9,hb9⟩⟩
 apply Seq.of (IsGt W.heap.size (Gr.normG m.graph) (last+1)) (IsGt.st _ _ _)
 focus
  rintro w1 u ⟨R1,n1,rfl⟩ hF;simp[moreFacts,Fact.more,Oper.deps,Region.binds,List.filter_cons,World.more_drew] at hF;simp[putFacts,Oper.deps,Region.binds,List.filter_cons,Region.dstOf,Fact.at,Act.put,World.more_drew];obtain⟨x9,b9,hu,hg9,hx9,hb9⟩:=hF;rw[hu]
  go_wp2_with fail
  exact⟨gw,rfl,_,_,rfl,rfl,⟨x9,b9,rfl,hg9,hx9,hb9⟩⟩
 apply Seq.of (IsGa W.heap.size (Gr.normG m.graph) (last+1)) (IsGa.st _ _ _)
 focus
  rintro w1 u ⟨R1,n1,rfl⟩ hF;simp[moreFacts,Fact.more,Oper.deps,Region.binds,List.filter_cons,World.more_drew] at hF;simp[putFacts,Oper.deps,Region.binds,List.filter_cons,Region.dstOf,Fact.at,Act.put,World.more_drew];obtain⟨x9,b9,hu,hg9,hx9,hb9⟩:=hF;rw[hu]
  go_wp2_with fail
  exact⟨gw,rfl,_,_,rfl,rfl,⟨x9,b9,rfl,hg9,hx9,hb9⟩⟩
 apply Seq.val
 focus
  rintro w1 u ⟨R1,n1,rfl⟩ hF;simp[moreFacts,Fact.more,Oper.deps,Region.binds,List.filter_cons,World.more_drew] at hF;simp[putFacts,Oper.deps,Region.binds,List.filter_cons,Region.dstOf,Fact.at,Act.put,World.more_drew];obtain⟨x9,b9,hu,hg9,hx9,hb9⟩:=hF;rw[hu]
  go_wp2_with fail
  exact⟨gw,rfl,_,_,rfl,rfl,rfl⟩
 apply Seq.of (IsGa W.heap.size (Gr.normG m.graph) (last+1)) (IsGa.st _ _ _)
 focus
  rintro w1 u ⟨R1,n1,rfl⟩ hF;simp[moreFacts,Fact.more,Oper.deps,Region.binds,List.filter_cons,World.more_drew] at hF;simp[putFacts,Oper.deps,Region.binds,List.filter_cons,Region.dstOf,Fact.at,Act.put,World.more_drew];obtain⟨⟨x9,b9,hu,hg9,hx9,hb9⟩,-⟩:=hF;rw[hu]
  go_wp2_with fail
  exact⟨gw,rfl,_,_,rfl,rfl,⟨x9,b9,rfl,hg9,hx9,hb9⟩⟩
 iterate 1
  apply Seq.val
  focus
   rintro w1 u ⟨R1,n1,rfl⟩ hF;simp[moreFacts,Fact.more,Oper.deps,Region.binds,List.filter_cons,World.more_drew] at hF;simp[putFacts,Oper.deps,Region.binds,List.filter_cons,Region.dstOf,Fact.at,Act.put,World.more_drew];go_wp2;exact⟨gw,rfl,_,_,rfl,rfl,rfl⟩
 rintro u w1 ⟨R1,n1,rfl⟩ hF;simp[moreFacts,apartFacts,Fact.more,Fact.isNew,List.range_succ,World.more_drew] at hF;obtain⟨-,-,-,-,-,x9,b9,hu,hg9,hx9,hb9⟩:=hF;simp[putFacts,Region.dstOf,Fact.at,Act.put,List.range_succ,World.more_drew];rw[hu];have HG9:=hY hg9;have HX9:=hY hx9;have HB9:=hY hb9;clear hu hg9 hx9 hb9 hfld
 go_wp2_with fail
 have e1:=set_blk (o:=6) (v:=.int .i64 (last+1)) HB.o rfl;have e2:=set_blk (o:=4) (v:=.pointer (some ⟨x9,0,none⟩)) e1 rfl;have e3:=set_blk (o:=5) (v:=.bool (decide (0<ps.length))) e2 rfl;have hl:=((((Leaves.refl [83] W).set (o:=6) (v:=.int .i64 (last+1)) HB.o (by simp)).set (o:=4) (v:=.pointer (some ⟨x9,0,none⟩)) e1 (by simp)).set (o:=5) (v:=.bool (decide (0<ps.length))) e2 (by simp));have hg:=(((H.o.g.set (o:=6) H.o.z0 (.int .i64 (last+1))).set (o:=4) H.o.z0 (.pointer (some ⟨x9,0,none⟩))).set (o:=5) H.o.z0 (.bool (decide (0<ps.length))));have ht:Twin 83 W (((W.setCell ⟨z,6,none⟩ (.int .i64 (last+1))).setCell ⟨z,4,none⟩ (.pointer (some ⟨x9,0,none⟩))).setCell ⟨z,5,none⟩ (.bool (decide (0<ps.length)))):=⟨hl,by simp[World.size_setCell]⟩;clear c3 c4 c5 c6 f4 f5 f6 e1 e2 hb;generalize ((W.setCell ⟨z,6,none⟩ (.int .i64 (last+1))).setCell ⟨z,4,none⟩ (.pointer (some ⟨x9,0,none⟩))).setCell ⟨z,5,none⟩ (.bool (decide (0<ps.length)))=WS at *;have c5:=cell_of (o:=5) e3;have c6:=cell_of (o:=6) e3;simp at c5 c6;have hb:Pre z WS:=heap_lt e3;have HE3:=hY e3;have HLS:=hY hl;have HGS:=hY hg;have HTS:=hY ht;clear e3 hl hg ht;refine wp_region_seq 11 Tryz.mixed (by kernel_rfl) (by kernel_rfl) ?_
 iterate 11
  apply Seq.val
  focus
   rintro w1 u ⟨R1,n1,rfl⟩ hF;simp[moreFacts,Fact.more,Oper.deps,Region.binds,List.filter_cons,World.more_drew] at hF;simp[putFacts,Oper.deps,Region.binds,List.filter_cons,Region.dstOf,Fact.at,Act.put,World.more_drew];go_wp2;exact⟨gw,rfl,_,_,rfl,rfl,rfl⟩
 rintro u w1 ⟨R1,n1,rfl⟩ hF;clear hF;simp[putFacts,Region.dstOf,Fact.at,Act.put,List.range_succ,World.more_drew];go_wp2
 rename_i R4 n4
 have hT:NoData [83]:=by simp[NoData]
 exact bodyPost_ret (v:=.tuple #[.int .i64 (last+1),.bool (decide (0<ps.length)),.int .i64 0]) (by simp[results,Tryz.results13,go_sem]) rfl ⟨rfl,x9,b9,⟨⟨_,_,grew_heap gw HE3.o,(HB2.o.leaves HLS.o hT (by simp)).grew gw,(HB3.o.leaves HLS.o hT (by simp)).grew gw⟩,H.o.ok,H.o.n,H.o.z0,HGS.o.trans gw⟩,(HG9.o.leaves (HTS.o.more R4 n4).1 hT (by simp)).grew gw,Nat.le_trans H.o.g.below.size HX9.o,Nat.le_trans H.o.g.below.size HB9.o,HLS.o.trans (Leaves.grew gw),HB9.o⟩
def ackO:AkC:=⟨0,0,1,none,0,0,none,0,0,0⟩
theorem pass1_addO:addR passL1 1 [] ackO=0:=by
 have h:Gr.nodeOf passL1 ackO.node=some ⟨0,0,[],[],1,List.replicate 8 0⟩:=rfl;unfold addR;rw[h];have hm:mfind ([]:List (Who×AkC)) (ackO.node,ackO.ix)=none:=mfind_no fun x hx=>by cases hx
 simp only;rw[hm];simp[ackO]
theorem map_ne{κ ν:Type}{S:MSpec κ ν}{W:World}{b n z:Nat}{m:List (κ×ν)}{c:Array Value}{t:TypeId}(h:MapAt S W b n m)(hz:W.heap[z]? = some (.cells c t)): z≠b:=by
 obtain⟨D,⟨es,c,h1,-⟩,-⟩:=h;intro e;rw[e,h1] at hz;cases hz
theorem coAck_one{w0 W:World}{z bk lg x b:Nat}{hv qv:Value}{pl:Bool}{last ref:Int}(h1:W.heap[z]? = some (.cells #[.pointer (some ⟨bk,0,none⟩),.pointer (some ⟨lg,0,none⟩),hv,qv,.pointer (some ⟨x,0,none⟩),.bool pl,.int .i64 last,.int .i64 ref] 83))(hG:GatherAt W x b 0 passL1 1 [])(hg:Grew w0 W)(hb:w0.heap.size≤b):
  Calls Tryz.prog 17 #[.pointer (some ⟨z,0,none⟩),akv ackO] W fun e W'=>e = .returned (.int .i64 0)∧W'.heap[z]? = W.heap[z]? ∧ GatherAt W' x b 1 passL1 1 [((0,0),ackO)]∧Grew w0 W':=by
 have c4:=cell_of (o:=4) h1;simp at c4;have hbz:Pre z W:=heap_lt h1;have hne:=map_ne hG.map h1;have HA:=hY fun W' (g:Grew W W')=>add_any' w0 W' x b 0 passL1 1 [] ackO (hG.grew g) (hg.trans g) hb (by decide) (by unfold okWho;decide)
 have HN:=hY hne;have HBZ:=hY hbz;clear h1 hG hg hb hne;show Calls Tryz.prog _ #[_,.agg #[.int .i64 0,.int .i64 0,.int .i64 1,.slice none 0 0,.slice none 0 0,.int .i64 0]] W _;go_enter Tryz.func17,Tryz.ntmps17
 go_wp2_with fail
 refine wp_region_seq 5 Tryz.mixed (by kernel_rfl) (by kernel_rfl) ?_
 iterate 5
  apply Seq.val
  focus
   rintro w1 u ⟨R1,n1,rfl⟩ hF;simp[moreFacts,Fact.more,Oper.deps,Region.binds,List.filter_cons,World.more_drew] at hF;simp[putFacts,Oper.deps,Region.binds,List.filter_cons,Region.dstOf,Fact.at,Act.put,World.more_drew];go_wp2;exact⟨gw,rfl,_,_,rfl,rfl,rfl⟩
 rintro u w1 ⟨R1,n1,rfl⟩ hF;clear hF;simp[putFacts,Region.dstOf,Fact.at,Act.put,List.range_succ,World.more_drew]
 go_wp2_with fail
 refine(HA.o _ gw).mono ?_;rintro e w4 ⟨rfl,-,h4⟩;obtain⟨h5,h6,h7⟩:=h4 pass1_addO;rw[pass1_addO];have H5:=hY h5;have H6:=hY h6;have H7:=hY h7;clear h4 h5 h6 h7
 go_wp2_with fail
 go_ret;refine⟨rfl,?_,H5.o,H6.o⟩;exact(H7.o.2 z (Nat.lt_of_lt_of_le HBZ.o (Grew.below (gw:Grew W _)).size) HN.o).trans ((Grew.below (gw:Grew W _)).block z HBZ.o)
theorem coReady_one{W:World}{z bk lg x b:Nat}{hv qv:Value}{pl:Bool}{last ref:Int}(h1:W.heap[z]? = some (.cells #[.pointer (some ⟨bk,0,none⟩),.pointer (some ⟨lg,0,none⟩),hv,qv,.pointer (some ⟨x,0,none⟩),.bool pl,.int .i64 last,.int .i64 ref] 83))(hG:GatherAt W x b 1 passL1 1 [((0,0),ackO)]):
  Calls Tryz.prog 27 #[.pointer (some ⟨z,0,none⟩)] W (Gives (.bool false) W):=by
 have c4:=cell_of (o:=4) h1;simp at c4;have HM:=hY (missing_any x b 1 passL1 1 _ W hG (by decide));rw[pass1_tasks] at HM;clear h1 hG;go_enter Tryz.func27,Tryz.ntmps27
 go_wp2_with (go_at_call 74;refine HM.o.mono ?_;rintro e w1 ⟨rfl,R1,n1,rfl⟩)
 go_ret;refine⟨rfl,?_⟩;exact gw
structure WithSt (w0 W wr:World) (z bk lg:Nat) (ms:List Gr.Mf) (m:Gr.Mf) (ps:List (List Gr.Stp)) (uv:Value) (pl:Bool) (last ref:Int):Prop where
 blk:∃hv qv,wr.heap[z]? = some (.cells #[.pointer (some ⟨bk,0,none⟩),.pointer (some ⟨lg,0,none⟩),hv,qv,uv,.bool pl,.int .i64 last,.int .i64 ref] 83)∧HistAt w0.heap.size wr hv (ms++[m])∧QueueAt W.heap.size wr qv ps
 old:Keep z W wr
 l:Leaves [83,34] W wr
 g:Grew w0 wr
 s:W.heap.size≤wr.heap.size
theorem WithSt.grew{w0 W wr wx:World}{z bk lg:Nat}{ms:List Gr.Mf}{m:Gr.Mf}{ps:List (List Gr.Stp)}{uv:Value}{pl:Bool}{last ref:Int}(h:WithSt w0 W wr z bk lg ms m ps uv pl last ref)(g:Grew wr wx)(hb:True:=trivial): WithSt w0 W wx z bk lg ms m ps uv pl last ref:=by
 obtain⟨hv,qv,h1,h2,h3⟩:=h.blk;exact⟨⟨hv,qv,grew_heap g h1,h2.grew g,h3.grew g⟩,h.old.trans (Keep.ofGrew g),h.l.trans (Leaves.grew g),h.g.trans g,Nat.le_trans h.s g.below.size⟩
section
variable {w0 W:World} {z bk lg:Nat} {ms:List Gr.Mf} {m:Gr.Mf} {ps:List (List Gr.Stp)} {uv:Value} {pl:Bool} {last ref:Int}
theorem coQueue_any(h:CoAt w0 W z bk lg ms m ps uv pl last ref): Calls Tryz.prog 14 #[.pointer (some ⟨z,0,none⟩)] W (Gives (.int .i64 ps.length) W):=by
 obtain⟨hv,qv,h1,h2,h3⟩:=h.blk;have c3:=cell_of (o:=3) h1;simp at c3;obtain⟨aq,cq,rfl,hn,-⟩:=h3.at;clear h h1 h2 h3;go_enter Tryz.func14,Tryz.ntmps14;go_wp2;go_ret;refine⟨rfl,?_⟩;exact gw
theorem coRefused_any(h:CoAt w0 W z bk lg ms m ps uv pl last ref): Calls Tryz.prog 23 #[.pointer (some ⟨z,0,none⟩)] W (Gives (.int .i64 ref) W):=by
 obtain⟨hv,qv,h1,h2,h3⟩:=h.blk;have c7:=cell_of (o:=7) h1;simp at c7;clear h h1 h2 h3;go_enter Tryz.func23,Tryz.ntmps23;go_wp2;go_ret;refine⟨rfl,?_⟩;exact gw
end
theorem awake23_any(w:World): Calls Tryz.prog 5 #[] w (Gives (.bool true) w):=by
 have hln:((Gr.putM putI (firstM passL1)).length:Int)+8≤10000:=by
  have:=first_len pass1_right (by intro n hn;simp only[passL1,List.mem_cons,List.not_mem_nil,or_false] at hn;rcases hn with rfl|rfl<;>rfl)
  omega
 have HLN:=hY hln;clear hln;go_enter Tryz.func5,Tryz.ntmps5
 go_wp2_with (first
  | (go_at_call 9;refine(diskNew_any 10000 _ (by decide)).mono ?_;rintro e w1 ⟨x,rfl,hx,hd,R1,n1,rfl⟩;(have HX:=hY hx);(have HD:=hY hd);clear hx hd)
  | (go_at_call 21;refine(pass1O_any _).mono ?_;rintro e w2 ⟨v2,lc2,rfl,ho2,hi2,R2,n2,rfl⟩;(have HO2:=hY ho2);(have HI2:=hY hi2);clear ho2 hi2)
  | (go_at_call 8;refine(coOpen_new (w0:=w) (g:=passL1) (HD.o.grew gw) (fun W' hl _=>(hl.nodes HI2.o (by decide) (by decide)).at (hl.own HO2.o (by decide))) pass1_small pass1_right (by intro n hn;simp only[passL1,List.mem_cons,List.not_mem_nil,or_false] at hn;rcases hn with rfl|rfl<;>rfl) gw HX.o (by decide) HLN.o).mono ?_;rintro e w3 ⟨z,bk,lg,rfl,hc⟩;(have HC:=hY hc);clear hc)
  | (go_at_call 13;refine(coBegin_any HC.o (by decide)).mono ?_;rintro e w4 ⟨rfl,x4,b4,hc4,hg4,hx4,hb4,-⟩;(have HC4:=hY hc4);(have HG4:Hid (GatherAt _ x4 b4 0 passL1 1 []):=hY hg4.ga);(have HB4:=hY hb4);clear hc4 hg4 hx4 hb4))
 obtain⟨hv,qv,b1,-,-⟩:=HC4.o.blk;have HB1:=hY b1;clear b1;refine(coAck_one (w0:=w) HB1.o HG4.o HC4.o.g HB4.o).mono ?_;rintro e w5 ⟨rfl,hz5,hg5,hgr5⟩;have HZ5:=hY (hz5.trans HB1.o);have HG5:=hY hg5;have HGR5:=hY hgr5;clear hz5 hg5 hgr5
 go_wp2_with (go_at_call 27;refine(coReady_one HZ5.o HG5.o).mono ?_;rintro e w6 ⟨rfl,R6,n6,rfl⟩)
 go_ret;exact⟨rfl,HGR5.o.trans gw⟩
end Go.Proofs.YtipgfjihdglocaaGreat
namespace Gr
def SrcP(l:List Nd)(k:Int): Prop:=∀n∈l,n.kind=0→n.par=k
theorem SrcP.perm{l l':List Nd}{k:Int}(h:SrcP l k)(hp:l'.Perm l): SrcP l' k:=fun n hn=>h n (hp.mem_iff.1 hn)
end Gr
namespace Go.Proofs.YtipgfjihdglocaaGreat
open Go.RowKit Ga
end Go.Proofs.YtipgfjihdglocaaGreat
namespace Go.Proofs.YtipgfjihdglocaaGreat
open Go.RowKit Ga
def CL(T:List TypeId)(W W':World): Prop:=∀(q:Nat) (c:Array Value) (t:TypeId) (f:Nat×Nat),W.heap[q]? = some (.cells c t f)→t∉T→W'.heap[q]? = some (.cells c t f)
section
variable {T:List TypeId} {W W':World}
theorem Leaves.cl(h:Leaves T W W'): CL T W W':=fun _ _ _ _ hq ht=>h.at hq ht
theorem CL.trans{a b c:World}(h:CL T a b)(k:CL T b c): CL T a c:=fun q x t f hq ht=>k q x t f (h q x t f hq ht) ht
theorem CL.grew(g:Grew W W'): CL T W W':=(Leaves.grew g).cl
theorem CL.mono{T':List TypeId}(h:CL T W W')(hs:∀t∈T,t∈T'): CL T' W W':=fun q c t f hq ht=>h q c t f hq fun e=>ht (hs t e)
theorem Keep.cl{b:Nat}(h:Keep b W W')(hb:∀c t f,W.heap[b]? ≠ some (.cells c t f)): CL T W W':=fun q c t f hq _=>(h.2 q (heap_lt hq) fun e=>hb c t f (e▸hq)).trans hq
theorem MapAt.nocells{κ ν:Type}{S:MSpec κ ν}{b n:Nat}{m:List (κ×ν)}(h:MapAt S W b n m): ∀c t f,W.heap[b]? ≠ some (.cells c t f):=by
 obtain⟨D,⟨es,c,h1,-⟩,-⟩:=h;intro c' t f e;rw[h1] at e;cases e
theorem CL.type(h:CL T W W'){t:TypeId}(ht:t∉T): Same t W W':=fun q c hq=>(h q c t _ hq ht).trans hq.symm
theorem CL.own{α:Type}{base:Nat}{e:TypeId}{k:Nat}{enc:α→List Value}{v:Value}{l:List α}(h:CL T W W')(ho:OwnAt base e k enc W v l)(ht:e∉T): OwnAt base e k enc W' v l:=OwnAt.sameT ho (h.type ht)
theorem CL.nodes{base:Nat}{lc:List NdC}{l:List Gr.Nd}(h:CL T W W')(ho:NodesIn base W lc l)(h1:3∉T)(h2:187∉T): NodesIn base W' lc l:=ho.sameT (h.type h1) (h.type h2)
theorem CL.steps{base:Nat}{lc:List StC}{l:List Gr.Stp}(h:CL T W W')(ho:StepsIn base W lc l)(h1:3∉T)(h2:187∉T): StepsIn base W' lc l:=ho.sameT (h.type h1) (h.type h2)
theorem CL.mf{base:Nat}{c:MfC}{m:Gr.Mf}(g:CL T W W')(h:MfOwn base W c m)(hT:NoData T): MfOwn base W' c m:=by
 obtain⟨lc,h1,h2⟩:=h.g;obtain⟨lp,h3,h4⟩:=h.p;obtain⟨t1,t2,t3,t4,t5,t6⟩:=hT;exact⟨h.epoch,h.plans,g.own h.o t1,⟨lc,g.own h1 t3,g.nodes h2 t1 t2⟩,g.own h.e t5,g.own h.x t6,⟨lp,g.own h3 t4,g.steps h4 t1 t2⟩⟩
theorem CL.pl{base:Nat}{v:Value}{p:List Gr.Stp}(g:CL T W W')(h:PlOwn base W v p)(hT:NoData T): PlOwn base W' v p:=by
 obtain⟨lc,h1,h2⟩:=h;exact⟨lc,g.own h1 hT.2.2.2.1,g.steps h2 hT.1 hT.2.1⟩
theorem CL.hist{base:Nat}{hv:Value}{ms:List Gr.Mf}(g:CL T W W')(h:HistAt base W hv ms)(hT:NoData T)(hM:47∉T): HistAt base W' hv ms:=by
 obtain⟨cs,h1,h2⟩:=h;exact⟨cs,g.own h1 hM,Rel.mono (fun _ _ q=>g.mf q hT) h2⟩
theorem CL.queue{base:Nat}{qv:Value}{ps:List (List Gr.Stp)}(g:CL T W W')(h:QueueAt base W qv ps)(hT:NoData T)(hM:34∉T): QueueAt base W' qv ps:=by
 obtain⟨cs,h1,h2⟩:=h;exact⟨cs,g.own h1 hM,Rel.mono (fun _ _ q=>⟨g.pl q.1 hT,q.2⟩) h2⟩
end
theorem CoAt.cl{T:List TypeId}{w0 W W':World}{z bk lg:Nat}{ms:List Gr.Mf}{m:Gr.Mf}{ps:List (List Gr.Stp)}{uv:Value}{pl:Bool}{last ref:Int}(h:CoAt w0 W z bk lg ms m ps uv pl last ref)(g:CL T W W')(hT:NoData T)(h1:83∉T)(h2:47∉T)(h3:34∉T)(hg:Grew w0 W'): CoAt w0 W' z bk lg ms m ps uv pl last ref:=by
 obtain⟨hv,qv,e1,e2,e3⟩:=h.blk;exact⟨⟨hv,qv,g z _ _ _ e1 h1,g.hist e2 hT h2,g.queue e3 hT h3⟩,h.ok,h.n,h.z0,hg⟩
section
variable {w0 W:World} {z bk lg x b n:Nat} {ms:List Gr.Mf} {m:Gr.Mf} {ps:List (List Gr.Stp)} {pl:Bool} {last ref ep:Int} {g:List Gr.Nd} {mm:List (Who×AkC)}
end
end Go.Proofs.YtipgfjihdglocaaGreat
