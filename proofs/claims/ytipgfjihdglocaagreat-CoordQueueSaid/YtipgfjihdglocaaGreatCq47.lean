import Derived.Test.YtipgfjihdglocaaGreatCq45
import Derived.Test.YtipgfjihdglocaaGreatCq11
import Derived.Test.YtipgfjihdglocaaGreatCq44
import Derived.Test.YtipgfjihdglocaaGreatCq42
import Derived.Test.YtipgfjihdglocaaGreatCq43
import Derived.Deep.QuietTactic
import Derived.BigQuiet
import Derived.Deep.RegionHeld3
import Derived.Test.YtipgfjihdglocaaGreatCq46
set_option linter.unusedSimpArgs false
set_option linter.unusedVariables false
set_option maxRecDepth 100000
set_option maxHeartbeats 64000000
namespace Go.Proofs.YtipgfjihdglocaaGreat
open Go.RowKit Ga
def inR:Value→Option (DataW Unit×List MemPlace)
 | .int .i64 x=>some (.lit (.int .i64 x),[])
 | _=>none
theorem inR_inv(u:Value)(ps:List MemPlace)(v:Int)(h:inR u=some (.lit (.int .i64 v),ps)): u = .int .i64 v:=by
 unfold inR at h;split at h
 ·simp at h;rw[h.1]
 ·cases h
theorem int_law:Maps.Keyed Tryz.prog 3:=Maps.int_keyed Tryz.underlying3
def inOk(x:Int): Prop:=-9223372036854775808≤x∧x≤9223372036854775807
def intS:MSpec Int Int where
 kt:=3
 law:=int_law
 kenc:=.int .i64
 kinj:=fun a b h=>by cases h;rfl
 ok:=inOk
 key:=fun a h=>⟨_,Maps.keyOf_int_mk Tryz.underlying3 (WalkArith.wf_i64 h)⟩
 venc:=.int .i64
 dat:=fun x=>.lit (.int .i64 x)
 R:=inR
 rmk:=fun v=>rfl
 rinv:=inR_inv
structure BookAt (base:Nat) (W:World) (bk mp n:Nat) (ep:Int):Prop where
 blk:W.heap[bk]? = some (.cells #[.slice none 0 0,.map (some mp),.int .i64 ep] 155)
 map:∃m:List (Int×Int),MapAt intS W mp n m∧∀x∈m,x.1≤ep
 b0:base≤bk
 m0:base≤mp
theorem BookAt.grew{base:Nat}{W W':World}{bk mp n:Nat}{ep:Int}(h:BookAt base W bk mp n ep)(g:Grew W W'): BookAt base W' bk mp n ep:=by
 obtain⟨m,h1,h2⟩:=h.map;exact⟨grew_heap g h.blk,⟨m,h1.grew g,h2⟩,h.b0,h.m0⟩
theorem BookAt.leaves{T:List TypeId}{base:Nat}{W W':World}{bk mp n:Nat}{ep:Int}(h:BookAt base W bk mp n ep)(g:Leaves T W W')(hT:155∉T): BookAt base W' bk mp n ep:=by
 obtain⟨m,h1,h2⟩:=h.map;exact⟨g.at h.blk hT,⟨m,h1.leaves g,h2⟩,h.b0,h.m0⟩
theorem BookAt.ne{base:Nat}{W:World}{bk mp n:Nat}{ep:Int}(h:BookAt base W bk mp n ep){b n':Nat}{κ ν:Type}{S:MSpec κ ν}{m:List (κ×ν)}(hm:MapAt S W b n' m): bk≠b:=map_ne hm h.blk
theorem indexLn_none(W:World)(ax:Option Addr)(cx:Nat)(fv:Value): Calls Tryz.prog 188 #[.slice ax 0 cx,fv] W (Gives (.int .i64 (-1)) W):=by
 go_enter Tryz.func188,Tryz.ntmps188;go_wp2
 go_loopg [8] 0 (fun gg s8 wr=>s8 = .int .i64 0∧Hid (Grew W wr))
 case atStart=>exact⟨rfl,hY gw⟩
 case round =>
  obtain⟨rfl,HG⟩:=hrel;go_wp2;go_ret;exact⟨rfl,HG.o.trans gw⟩
theorem containsLn_none(W:World)(ax:Option Addr)(cx:Nat)(fv:Value): Calls Tryz.prog 145 #[.slice ax 0 cx,fv] W (Gives (.bool false) W):=by
 have HI:=hY fun W'=>indexLn_none W' ax cx fv
 go_enter Tryz.func145,Tryz.ntmps145
 go_wp2_with (go_at_call 188;refine(HI.o _).mono ?_;rintro e w1 ⟨rfl,R1,n1,rfl⟩)
 go_ret;refine⟨rfl,?_⟩;exact gw
section
variable {W:World} {base:Nat}
theorem bookCommit_new{w0:World}{bk mp n:Nat}{ep e0:Int}(h:BookAt w0.heap.size W bk mp n e0)(hg:Grew w0 W)(hn:n≤1000000)(hx:e0<ep)(he:inOk ep){ax:Option Addr}{cx:Nat}:
  Calls Tryz.prog 104 #[.pointer (some ⟨bk,0,none⟩),.int .i64 ep,.slice ax 0 cx] W fun e W'=>e = .returned (.int .i64 0)∧BookAt w0.heap.size W' bk mp (n+1) ep∧Grew w0 W'∧CL [155] W W'∧∀q,q<W.heap.size→q≠bk→q≠mp→W'.heap[q]? = W.heap[q]? :=by
 obtain⟨m,hm,hle⟩:=h.map;have H:=hY h;have HM:=hY hm;have HNO:Hid (∀z∈m,z.1≠ep):=hY fun z hz e=>by have:=hle z hz;omega
 have c0:=cell_of (o:=0) h.blk;have c1:=cell_of (o:=1) h.blk;have c2:=cell_of (o:=2) h.blk;have f0:=frozen_of (o:=0) h.blk;have f2:=frozen_of (o:=2) h.blk;simp at c0 c1 c2;have hb:Pre bk W:=heap_lt h.blk;have HG:=hY hg;have HE:=hY he;have HLE:=hY hle;have hm0:=h.m0;have hx2:¬ep≤e0:=by omega
 have HCN:=hY fun W'=>containsLn_none W' ax cx
 clear h hm hle hg he;cases ax
 all_goals
  go_enter Tryz.func104,Tryz.ntmps104
  go_wp2_with (go_at_call 145;refine(HCN.o _ _).mono ?_;rintro e w1 ⟨rfl,R1,n1,rfl⟩)
  refine wp_region_seq 10 Tryz.mixed (by kernel_rfl) (by kernel_rfl) ?_
  iterate 10
   apply Seq.val
   focus
    rintro w1 u ⟨R1,n1,rfl⟩ hF;simp[moreFacts,Fact.more,Oper.deps,Region.binds,List.filter_cons,World.more_drew] at hF;simp[putFacts,Oper.deps,Region.binds,List.filter_cons,Region.dstOf,Fact.at,Act.put,World.more_drew];go_wp2;exact⟨gw,rfl,_,_,rfl,rfl,rfl⟩
  rintro u w1 ⟨R1,n1,rfl⟩ hF;clear hF;simp[putFacts,Region.dstOf,Fact.at,Act.put,List.range_succ,World.more_drew];refine wpList_mapPut (S:=intS) (w0:=w0) (M:=m) rfl (.tmp 23) (.tmp 24) (.tmp 29) 153 rfl Tryz.underlying153 (HG.o.trans gw) hm0 rfl (HM.o.grew gw) (by unfold maxLen;omega) ep 0 HE.o HNO.o rfl rfl ?_;intro W7 h7 g7 k7;have hk7:Keep mp W W7:=Keep.trans (Keep.ofGrew gw) k7;have hne:=H.o.ne HM.o;have hB7:W7.heap[bk]? = _:=(hk7.2 bk hb hne).trans H.o.blk;have hG7:=g7;have H7:=hY h7;have G7:=hY hG7;have K7:=hY hk7;have B7:=hY hB7;have c0:=cell_of (o:=0) hB7;have c2:=cell_of (o:=2) hB7;have f0:=frozen_of (o:=0) hB7;have f2:=frozen_of (o:=2) hB7;simp at c0 c2;have hb7:Pre bk W7:=heap_lt hB7;clear h7 g7 k7 hk7 hB7 hG7
  go_wp2_with fail
  (try (simp[Result.andThen,Sem.run,pure,Oper.upon];go_wp2_with fail))
 all_goals
  go_ret;have e1:=set_blk (o:=0) (v:=.slice none 0 0) B7.out rfl;have e2:=set_blk (o:=2) (v:=.int .i64 ep) e1 rfl;have hl:=((Leaves.refl [155] W7).set (o:=0) (v:=.slice none 0 0) B7.out (by simp)).set (o:=2) (v:=.int .i64 ep) e1 (by simp);have hg:=(G7.out.set (o:=0) H.o.b0 (.slice none 0 0)).set (o:=2) H.o.b0 (.int .i64 ep);have hq:∀q,q≠bk→((W7.setCell ⟨bk,0,none⟩ (.slice none 0 0)).setCell ⟨bk,2,none⟩ (.int .i64 ep)).heap[q]? = W7.heap[q]? :=fun q h=>(set_other fun e=>h e.symm).trans (set_other fun e=>h e.symm)
  have hsz:W7.heap.size=((W7.setCell ⟨bk,0,none⟩ (.slice none 0 0)).setCell ⟨bk,2,none⟩ (.int .i64 ep)).heap.size:=by simp[World.size_setCell]
  clear e1;generalize (W7.setCell ⟨bk,0,none⟩ (.slice none 0 0)).setCell ⟨bk,2,none⟩ (.int .i64 ep)=WS at *;refine⟨rfl,⟨grew_heap gw e2,⟨_,(H7.o.leaves hl).grew gw,fun x hx9=>?_⟩,H.o.b0,H.o.m0⟩,hg.trans gw,((K7.out.cl HM.o.nocells).trans hl.cl).trans (CL.grew gw),fun q h1 h2 h3=>?_⟩
  ·rcases List.mem_cons.1 hx9 with rfl|hx9
   ·exact Int.le_refl _
   ·have:=HLE.o x hx9;omega
  ·exact((Grew.below (gw:Grew WS _)).block q (by rw[←hsz];exact Nat.lt_of_lt_of_le h1 K7.out.1)).trans ((hq q h2).trans (K7.out.2 q h1 h3))
end
theorem coHolds_next{w0 W:World}{z bk lg mp n:Nat}{ms:List Gr.Mf}{m M:Gr.Mf}{ps:List (List Gr.Stp)}{last ref e0:Int}{c:MfC}(h:CoAt w0 W z bk lg ms m ps (.pointer none) false last ref)(hk:BookAt w0.heap.size W bk mp n e0)(hm:MfOwn 0 W c M)(ok:OkH M)(hn:n≤1000000)(hms:ms.length≤100000)(he:e0<M.epoch)(hl:M.epoch≤last)(hx:M.out=[]):
  Calls Tryz.prog 42 #[.pointer (some ⟨z,0,none⟩),.agg #[.int .i64 c.epoch,.int .i64 c.plans,.slice c.ao c.no c.co,.slice c.ag c.ng c.cg,.slice c.ae c.ne c.ce,.slice c.ax c.nx c.cx,.slice c.ap c.np c.cp]] W fun e W'=>e = .returned (.tuple #[])∧CoAt w0 W' z bk lg (ms++[m]) M ps (.pointer none) false last ref∧BookAt w0.heap.size W' bk mp (n+1) M.epoch∧CL [83,47,155] W W'∧(∀q,q<W.heap.size→q≠z→q≠bk→q≠mp→(∀hv,W.cell? ⟨z,2,none⟩=some hv→hv.ownBlock≠some q)→W'.heap[q]? = W.heap[q]?)∧∃hv',W'.cell? ⟨z,2,none⟩=some hv'∧∀q,hv'.ownBlock=some q→(∀hv,W.cell? ⟨z,2,none⟩=some hv→hv.ownBlock=some q)∨W.heap.size≤q:=by
 have H:=hY h;obtain⟨hv,qv,h1,h2,h3⟩:=h.blk;have c2:=cell_of (o:=2) h1;have f2:=frozen_of (o:=2) h1;simp at c2;have hb:Pre z W:=heap_lt h1;obtain⟨cs,ho,hr⟩:=h2;have hrl:=Rel.len hr;obtain⟨ah,ch,rfl,-,-⟩:=OwnAt.rows ho encMh_len;have H1:=hY h1;have H3:=hY h3;have HO:=hY ho;have HR:=hY hr;have HK:=hY hk;have HM:=hY hm;have HOK:=hY ok;have HNN:Hid ((n≤1000000∧ms.length≤100000)∧cs.length=ms.length+1):=hY ⟨⟨hn,hms⟩,by rw[hrl];simp⟩;have HE:Hid (e0<M.epoch∧M.epoch≤last):=hY ⟨he,hl⟩;have hep:=hm.epoch;obtain⟨axx,cxx,hxx⟩:=(OwnAt.rows hm.x encLn_len).len;rw[hx] at hxx;obtain⟨ep,pl,ao,no,co,ag,ng,cg,ae,ne,ce,ax,nx,cx,ap,np,cp⟩:=c;simp only at hep;cases hxx;have HEP:=hY hep;clear h h1 h3 hk hm ok hr ho hrl hn hms he hl hx hep;go_enter Tryz.func42,Tryz.ntmps42
 go_upto_region 1 with fail
 refine wp_region_noPanic ?_
 go_region_law (first
  | (refine step_ownK (w0:=w0) (v:=.slice ah cs.length ch) rfl (.tmp 8) (.tmp 10) 60 _ _ _ _ [(⟨ep,pl,ao,no,co,ag,ng,cg,ae,ne,ce,ax,0,cx,ap,np,cp⟩:MfC)] rfl Tryz.underlying60 infoMh rfl (by decide) encMh_len encMh_one rfl (OwnAt.grew HO.o gw) (H.o.g.trans gw) rfl (mh_at _ _ _ _ rfl (by simp[go_sem])) (by have:=HNN.o;simp;omega) (by decide) (by simp) ?_;intro v8 W8 hA;(obtain⟨a8,c8,hv8⟩:=(OwnAt.rows hA.2.1 encMh_len).len);(obtain⟨n8,hn8⟩:∃n8,(cs++([(⟨ep,pl,ao,no,co,ag,ng,cg,ae,ne,ce,ax,0,cx,ap,np,cp⟩:MfC)]:List MfC)).length=n8:=⟨_,rfl⟩);(rw[hn8] at hv8);(subst hv8);(clear hn8);(have hM8:=own_cells (OwnAt.grew HO.o gw) (grew_heap gw H1.o) (by decide) hA);(obtain⟨u8,hu8⟩:∃u,W8.cell? ⟨z,2,none⟩=some u:=⟨_,(cell_of hM8).trans rfl⟩);(have f8:=frozen_of (o:=2) hM8);(have p8:=Pre.mk (heap_lt hM8));(have HA:=hY hA);clear hA hM8))
 all_goals
  refine NoPanic.normal ?_;obtain⟨Wp,hA,hWp,hbp⟩:∃Wp,Appended w0 47 7 encMh Wp (.slice ah cs.length ch) (cs++[(⟨ep,pl,ao,no,co,ag,ng,cg,ae,ne,ce,ax,0,cx,ap,np,cp⟩:MfC)]) (.slice a8 n8 c8) W8∧Grew W Wp∧Wp.heap[W.heap.size]? = some (.cells #[.int .i64 ep,.int .i64 pl,.slice ao no co,.slice ag ng cg,.slice ae ne ce,.slice ax 0 cx,.slice ap np cp] 47):=⟨_,HA.o,gw,grew_heap gw (heap_new_at W _ _ rfl)⟩;have hop:=OwnAt.grew HO.o hWp;have hz8:=own_cells hop (grew_heap hWp H1.o) (by decide) hA
  have hb8:W8.heap[W.heap.size]? = _:=(hA.2.2.2.1 _ (heap_lt hbp) fun e=>by
   obtain⟨-,c,hc⟩:=OwnAt.block HO.o e
   exact absurd (heap_lt hc) (Nat.lt_irrefl _)).trans hbp
  have hl8:Leaves [83,47] W W8:=Leaves.app (Leaves.grew hWp) hop hA (by simp);have e9:=set_blk (o:=2) (v:=.slice a8 n8 c8) hz8 rfl;have hl89:=(Leaves.refl [83] W8).set (o:=2) (v:=.slice a8 n8 c8) hz8 (by simp);have hl9:=hl8.trans (hl89.mono (T':=[83,47]) (by simp));have ho9:=hl89.own hA.2.1 (by decide);have hg9:=Grew.set hA.1 H.o.z0 (.slice a8 n8 c8) (o:=2);have hb9:=hl89.at hb8 (by decide);have hk9:∀q,q<W.heap.size→q≠z→Value.ownBlock (.slice ah cs.length ch)≠some q→(W8.setCell ⟨z,2,none⟩ (.slice a8 n8 c8)).heap[q]? = W.heap[q]? :=fun q h1 h2 h3=>(set_other fun e=>h2 e.symm).trans ((hA.2.2.2.1 q (Nat.lt_of_lt_of_le h1 hWp.below.size) h3).trans (hWp.below.block q h1))
  have hs9:W.heap.size≤(W8.setCell ⟨z,2,none⟩ (.slice a8 n8 c8)).heap.size:=by rw[World.size_setCell];exact Nat.le_trans hWp.below.size hA.2.2.1
  have hcz:=c2;have hob:∀q,Value.ownBlock (.slice a8 n8 c8)=some q→Value.ownBlock (.slice ah cs.length ch)=some q∨W.heap.size≤q:=fun q hq=>(hA.2.2.2.2 q hq).imp id fun h=>Nat.le_trans hWp.below.size h
  clear f8 p8 hu8 hl8 hl89 hb8 hz8 hop hbp hA hWp HA c2 f2 hb;clear u8;generalize W8.setCell ⟨z,2,none⟩ (.slice a8 n8 c8)=WB at *;clear W8;have HK9:=hY hk9;have HS9:=hY hs9;have HCZ:=hY hcz;have HOB:=hY hob;clear hk9 hs9 hcz hob;obtain⟨tb,htb⟩:∃tb,W.heap.size=tb:=⟨_,rfl⟩;rw[htb] at hb9 ⊢;have HTB:=hY htb;clear htb;have HZ9:=hY e9;have HO9:=hY ho9;have HG9:=hY hg9;have HL9:=hY hl9;have c6:=cell_of (o:=6) e9;have f6:=frozen_of (o:=6) e9;have t0:=cell_of (o:=0) hb9;simp at c6 t0;have hbz:Pre z WB:=heap_lt e9;have hbt:Pre tb WB:=heap_lt hb9;have HB9:=hY hb9;clear e9 ho9 hg9 hl9 hb9;have hmx:=run_max Tryz.prog
  go_wp2_with fail
  refine wp_region_seq 8 Tryz.mixed (by kernel_rfl) (by kernel_rfl) ?_
  iterate 8
   apply Seq.val
   focus
    rintro w1 u ⟨R1,n1,rfl⟩ hF;simp[moreFacts,Fact.more,Oper.deps,Region.binds,List.filter_cons,World.more_drew] at hF;simp[putFacts,Oper.deps,Region.binds,List.filter_cons,Region.dstOf,Fact.at,Act.put,World.more_drew];go_wp2;exact⟨gw,rfl,_,_,rfl,rfl,rfl⟩
  rintro u w1 ⟨R1,n1,rfl⟩ hF;clear hF;simp[putFacts,Region.dstOf,Fact.at,Act.put,List.range_succ,World.more_drew]
  go_wp2_with fail
  have hmxx:max last ep=last:=Int.max_eq_left (by have:=HE.o;have:=HEP.o;omega);rw[hmxx];have e6:=set_blk (o:=6) (v:=.int .i64 last) HZ9.o rfl;have hl6:=(Leaves.refl [83] WB).set (o:=6) (v:=.int .i64 last) HZ9.o (by simp);have hg6:=HG9.o.set (o:=6) H.o.z0 (.int .i64 last);clear c6 f6 t0 hbz hbt hmx hmxx;have hk6:∀q,q≠z→(WB.setCell ⟨z,6,none⟩ (.int .i64 last)).heap[q]? = WB.heap[q]? :=fun q h=>set_other fun e=>h e.symm
  have hs6:WB.heap.size=(WB.setCell ⟨z,6,none⟩ (.int .i64 last)).heap.size:=by rw[World.size_setCell]
  generalize WB.setCell ⟨z,6,none⟩ (.int .i64 last)=WC at *;have HK6:=hY hk6;have HS6:=hY hs6;clear hk6 hs6;have hb6:=hl6.at HB9.o (by decide);have c0:=cell_of (o:=0) e6;have t0:=cell_of (o:=0) hb6;have t5:=cell_of (o:=5) hb6;simp at c0 t0 t5;have hbz:Pre z WC:=heap_lt e6;have hbt:Pre tb WC:=heap_lt hb6;have HE6:=hY e6;have HL6:=hY hl6;have HG6:=hY hg6;have HCM:=hY fun W' (g:Grew WC W')=>bookCommit_new (w0:=w0) (ep:=ep) (ax:=ax) (cx:=cx) (((HK.o.leaves HL9.o (by decide)).leaves hl6 (by decide)).grew g) (hg6.trans g) HNN.o.1.1 (by have:=HE.o;have:=HEP.o;omega) (by have:=HE.o;have:=HEP.o;have:=HOK.o.r.ep;unfold inOk;omega)
  clear e6 hl6 hg6 hb6;refine wp_region_seq 8 Tryz.mixed (by kernel_rfl) (by kernel_rfl) ?_
  iterate 8
   apply Seq.val
   focus
    rintro w1 u ⟨R1,n1,rfl⟩ hF;simp[moreFacts,Fact.more,Oper.deps,Region.binds,List.filter_cons,World.more_drew] at hF;simp[putFacts,Oper.deps,Region.binds,List.filter_cons,Region.dstOf,Fact.at,Act.put,World.more_drew];go_wp2;exact⟨gw,rfl,_,_,rfl,rfl,rfl⟩
  rintro u w1 ⟨R1,n1,rfl⟩ hF;clear hF;simp[putFacts,Region.dstOf,Fact.at,Act.put,List.range_succ,World.more_drew]
  go_wp2_with (go_at_call 104;refine(HCM.o _ gw).mono ?_;rintro e w5 ⟨rfl,hk5,hg5,hc5,hq5⟩;(have hq6:∀q,q<WC.heap.size→q≠bk→q≠mp→w5.heap[q]? = WC.heap[q]? :=fun q h1 h2 h3=>(hq5 q (Nat.lt_of_lt_of_le h1 (Grew.below (gw:Grew WC _)).size) h2 h3).trans ((Grew.below (gw:Grew WC _)).block q h1));clear hq5)
  have hT:NoData [83]:=by simp[NoData]
  have hT2:NoData [83,47]:=by simp[NoData]
  have hT3:NoData [155]:=by simp[NoData]
  have hLC:CL [83,47] W WC:=(HL9.o.trans (HL6.o.mono (by simp))).cl;have hc6:CL [155] WC w5:=(CL.grew gw).trans hc5;have hall:CL [83,47,155] W w5:=(hLC.mono (by simp)).trans (hc6.mono (by simp));have hTa:NoData [83,47,155]:=by simp[NoData]
  refine bodyPost_end (v:=.tuple #[]) (results_none rfl _ _ _) rfl ⟨rfl,⟨⟨_,_,grew_heap gw (hc6 _ _ _ _ HE6.o (by decide)),⟨_,OwnAt.grew (hc6.own (HL6.o.own HO9.o (by decide)) (by decide)) gw,Rel.snoc (Rel.mono (fun _ _ q=>(hall.mf q hTa).gr' gw) HR.o) ((hall.mf HM.o hTa).gr' gw)⟩,(hall.queue H3.o hTa (by decide)).grew gw⟩,HOK.o,H.o.n,H.o.z0,hg5.trans gw⟩,?_,hall.trans (CL.grew gw),fun q h1 h2 h3 h4 h5=>?_,_,cell_of (o:=2) (grew_heap gw (hc6 _ _ _ _ HE6.o (by decide))),fun q hq=>(HOB.o q hq).imp (fun h hv9 h9=>?_) id⟩
  ·rw[HEP.o];exact hk5.grew gw
  ·rw[HTB.o] at h1;have hs1:tb≤WB.heap.size:=by rw[←HTB.o];exact HS9.o
   have hqC:q<WC.heap.size:=by rw[←HS6.o];exact Nat.lt_of_lt_of_le h1 hs1
   have e5:=hq6 q hqC h3 h4
   have l5:q<w5.heap.size:=by
    have e6:=e5;rw[Array.getElem?_eq_getElem hqC] at e6;exact heap_lt e6
   exact((Grew.below (gw:Grew w5 _)).block q l5).trans (e5.trans ((HK6.o q h2).trans (HK9.o q (by rw[HTB.o];exact h1) h2 (h5 _ HCZ.o))))
  ·rw[HCZ.o] at h9;cases h9;exact h
theorem remL_nil(p:List Gr.Stp): remL [] p=[]:=by
 induction p with
 | nil=>rfl
 |cons s p ih =>
  show remL (remS [] s) p=[];have:remS [] s=[]:=by unfold remS;split<;>rfl
  rw[this,ih]
theorem newOk_nil:newOk []=true:=rfl
theorem norm_perm{l l':List Gr.Nd}(h:Gr.RightR l')(hp:l.Perm l'): Gr.normG l=Gr.normG l':=by
 have hr:=h.perm hp.symm;exact Gr.norm_unique ((Gr.normG_perm hr.ids hr.r7).trans hp) ((Gr.normG_sorted l).imp fun h=>by omega) h.ids h.r7
def IsMkT(M:Gr.Mf)(v:Value)(w:World): Prop:=∃c:MfC,v = .tuple #[.agg #[.int .i64 c.epoch,.int .i64 c.plans,.slice c.ao c.no c.co,.slice c.ag c.ng c.cg,.slice c.ae c.ne c.ce,.slice c.ax c.nx c.cx,.slice c.ap c.np c.cp],.int .i64 0]∧MfOwn 0 w c M
theorem IsMkT.st(M:Gr.Mf): ∀v w w',IsMkT M v w→Grew w w'→IsMkT M v w':=fun _ _ _ ⟨c,h1,h2⟩ g=>⟨c,h1,h2.gr' g⟩
theorem make_none{x b n:Nat}{m:Gr.Mf}{ep:Int}{mm:List (Who×AkC)}{c:MfC}{vp:Value}{p:List Gr.Stp}{w:World}(h:GatherAt w x b n m.graph ep mm)(hn:n≤1000)(hml:mm.length=(tasksOf m.graph).length)(hf:AllCame w m.graph mm (fun _=>akN))(hc:MfIs w c m)(ok:OkH m)
  (hu:StepsAt w vp p) (hp9:p.length≤100) (hpm:∀s∈p,s.nd.frm.length≤100∧s.nd.prog.length≤1000) (hpn:m.plans≤1000000) (hz:(planE m.graph p).1=0) (hcl:p.map Gr.cleanS=p) (hM:Gr.RightM fitsP (nextM m ep p (planE m.graph p).2.2)) (he:m.epoch<ep) :
  Calls Tryz.prog 113 #[.pointer (some ⟨x,0,none⟩),.agg #[.int .i64 c.epoch,.int .i64 c.plans,.slice c.ao c.no c.co,.slice c.ag c.ng c.cg,.slice c.ae c.ne c.ce,.slice c.ax c.nx c.cx,.slice c.ap c.np c.cp],vp] w fun e w'=>∃c':MfC,e = .returned (.tuple #[.agg #[.int .i64 c'.epoch,.int .i64 c'.plans,.slice c'.ao c'.no c'.co,.slice c'.ag c'.ng c'.cg,.slice c'.ae c'.ne c'.ce,.slice c'.ax c'.nx c'.cx,.slice c'.ap c'.np c'.cp],.int .i64 0])∧MfOwn 0 w' c' (nextM m ep p (planE m.graph p).2.2)∧Grew w w':=by
 refine(make_both x b n m.graph ep mm (fun _=>akN) c m vp p w h hn hml hf hc ok.r.so ok.s (by have:=ok.r.gr.len;omega) hu hp9 hpm ⟨ok.r.pl.1,hpn⟩ _ rfl _ rfl).mono ?_;rintro e w' ⟨-,-,h3⟩;rw[entG_none] at h3;obtain⟨l9,hl,s,hs,-,h4,-⟩:=h3 newOk_nil hz;have hr9:Gr.RightR (planE m.graph p).2.2:=planE_ok ok.r.gr hz
 have hs0:s=[]:=by
  have h5:(remL (Tab.newT []) p)=[]:=remL_nil p;rw[h5] at hs;exact hs.eq_nil
 subst hs0;rw[norm_perm hr9 hl,outG_none,offs_next ok.r,hcl] at h4;obtain⟨c',rfl,h5,g⟩:=h4 ⟨rightB_iff.2 hM,he,rfl⟩;exact⟨c',rfl,h5,g⟩
theorem calls_have{fn:Nat}{av:Array Value}{W:World}{Q:Ending→World→Prop}{p:World→Prop}(h:p W)(k:p W→Calls Tryz.prog fn av W Q): Calls Tryz.prog fn av W Q:=k h
def planOf(pl:Bool)(ps:List (List Gr.Stp)): List Gr.Stp:=if pl=true then ps.headD [] else []
theorem coMake_any{w0 W:World}{z bk lg x b n:Nat}{ms:List Gr.Mf}{m:Gr.Mf}{ps:List (List Gr.Stp)}{pl:Bool}{last ref ep:Int}{mm:List (Who×AkC)}(h:CoAt w0 W z bk lg ms m ps (.pointer (some ⟨x,0,none⟩)) pl last ref)(hG:GatherAt W x b n m.graph ep mm)(hn:n≤1000)(hml:mm.length=(tasksOf m.graph).length)(hf:AllCame W m.graph mm (fun _=>akN))
  (hpl:pl=decide (0<ps.length)) {p:List Gr.Stp} (hp:planOf pl ps=p) (hp9:p.length≤100) (hpm:∀s∈p,s.nd.frm.length≤100∧s.nd.prog.length≤1000) (hpn:m.plans≤1000000) (hz:(planE m.graph p).1=0) (hcl:p.map Gr.cleanS=p) {M:Gr.Mf} (hMe:nextM m ep p (planE m.graph p).2.2=M) (hM:OkH M) (he:m.epoch<ep) :
  Calls Tryz.prog 51 #[.pointer (some ⟨z,0,none⟩)] W fun e W'=>∃c':MfC,e = .returned (.tuple #[.agg #[.int .i64 c'.epoch,.int .i64 c'.plans,.slice c'.ao c'.no c'.co,.slice c'.ag c'.ng c'.cg,.slice c'.ae c'.ne c'.ce,.slice c'.ax c'.nx c'.cx,.slice c'.ap c'.np c'.cp],str (Gr.putM putI M),.int .i64 0])∧MfOwn 0 W' c' M∧Grew W W':=by
 obtain⟨hv,qv,h1,h2,h3⟩:=h.blk;have hb:Pre z W:=heap_lt h1;have c3:=cell_of (o:=3) h1;have c4:=cell_of (o:=4) h1;have c5:=cell_of (o:=5) h1;simp at c3 c4 c5;have HMA:=hY fun W' (g:Grew W W')=>coManifest_any (grew_heap g h1) rfl (h2.grew g) h.ok
 have HMK:=hY fun(c:MfC) (vp:Value) W' (g:Grew W W') (hc:MfIs W' c m) (hu:StepsAt W' vp p)=>make_none (w:=W') (hG.grew g) hn hml (hf.grew g) hc h.ok hu hp9 hpm hpn hz hcl (by rw[hMe];exact hM.r) he
 rw[hMe] at HMK;have HPM:=hY fun(c:MfC) W' (h:MfIs W' c M)=>packMan_ok c M W' h hM.s hM.p (Nat.le_trans hM.o (by decide)) hM.r
 obtain⟨aq,cq,rfl,hnq,hq⟩:=h3.at;cases pl
 case false =>
  have hp0:p=[]:=hp.symm;have HST:=hY fun W'=>StepsAt.nil W'
  rw[←hp0] at HST;clear h h1 h2 h3 hG hn hml hf hp hp9 hpm hpn hz hcl hMe hM he hq hpl hp0;go_enter Tryz.func51,Tryz.ntmps51
  go_upto_region 4 with fail
  refine wp_region_noPanic ?_
  go_region_law (first
   | (go_simp;go_at_call 16;((with_reducible refine Calls.mono (HMA.o _ ?_) ?_));(focus(exact gw));rintro e w2 ⟨c2,rfl,hm2,R2,n2,rfl⟩;(try simp only[World.more_drew] at hm2);(have HM2:=hY hm2);clear hm2)
   | (go_simp;go_at_call 113;((with_reducible refine Calls.mono (HMK.o _ _ _ ?_ ?_ ?_) ?_));(focus(exact gw));(focus(exact(HM2.o.gr' gw).is));(focus(exact HST.o _));rintro e w3 ⟨c3,rfl,hm3,R3,n3,rfl⟩;(try simp only[World.more_drew] at hm3);(have HM3:=hY hm3);clear hm3))
  all_goals
   refine NoPanic.normal ?_;clear HMA HMK HST
   go_wp2_with fail
   have hT:NoData [47]:=by simp[NoData]
   refine calls_have (p:=fun w=>MfOwn 0 w c3 M) (by show MfOwn 0 _ _ _;first|exact Twin.own ((Twin.new _ _ _ _).more _ _) HM3.o hT|exact Twin.own (((Twin.new _ _ _ _).more _ _).more _ _) HM3.o hT|exact HM3.o.gr' gw) fun hm9=>?_
   have HM9:=hY hm9;refine(HPM.o c3 _ hm9.is).mono ?_;clear hm9;rintro e w4 ⟨rfl,R4,n4,rfl⟩
   go_wp2_with fail
   refine bodyPost_ret (v:=.tuple #[.agg #[.int .i64 c3.epoch,.int .i64 c3.plans,.slice c3.ao c3.no c3.co,.slice c3.ag c3.ng c3.cg,.slice c3.ae c3.ne c3.ce,.slice c3.ax c3.nx c3.cx,.slice c3.ap c3.np c3.cp],str (Gr.putM putI M),.int .i64 0]) (by simp[results,Tryz.results51,go_sem]) rfl ⟨c3,rfl,?_,gw⟩;have hm5:=HM9.o.gr' (⟨R4,n4,rfl⟩:Grew _ (World.more _ R4 n4))
   first|exact Twin.own (((((Twin.new _ _ _ _).more _ _).more _ _).alloc _).more _ _) hm5 hT|exact Twin.own (((((Twin.new _ _ _ _).more _ _).alloc _).more _ _).more _ _) hm5 hT|exact Twin.own (((((Twin.new _ _ _ _).alloc _).more _ _).more _ _).more _ _) hm5 hT
 case true =>
  have hne:0<ps.length:=of_decide_eq_true hpl.symm;obtain⟨bq,rfl,hbq,xq,hwq,cq0⟩:=hq 0 hne;obtain⟨pa,pn,pc,hxv⟩:=hwq.1.form;rw[hxv] at cq0
  have hpe:ps[0]=p:=by
   rw[←hp];unfold planOf;rw[if_pos rfl]
   cases ps with
   | nil=>cases hne
   | cons a l=>rfl
  have HST:=hY fun W' (g:Grew W W')=>(hwq.1.at.grew g)
  rw[hpe,hxv] at HST;have hne':(0:Int)<ps.length:=by omega
  clear h h1 h2 h3 hG hn hml hf hp hp9 hpm hpn hz hcl hMe hM he hq hpl hwq hpe hxv;go_enter Tryz.func51,Tryz.ntmps51
  go_upto_region 4 with fail
  refine wp_region_noPanic ?_
  go_region_law (first
   | (go_simp;go_at_call 16;((with_reducible refine Calls.mono (HMA.o _ ?_) ?_));(focus(exact gw));rintro e w2 ⟨c2,rfl,hm2,R2,n2,rfl⟩;(try simp only[World.more_drew] at hm2);(have HM2:=hY hm2);clear hm2)
   | (go_simp;go_at_call 113;((with_reducible refine Calls.mono (HMK.o _ _ _ ?_ ?_ ?_) ?_));(focus(exact gw));(focus(exact(HM2.o.gr' gw).is));(focus(exact HST.o _ gw));rintro e w3 ⟨c3,rfl,hm3,R3,n3,rfl⟩;(try simp only[World.more_drew] at hm3);(have HM3:=hY hm3);clear hm3))
  all_goals
   refine NoPanic.normal ?_;clear HMA HMK HST
   go_wp2_with fail
   have hT:NoData [47]:=by simp[NoData]
   refine calls_have (p:=fun w=>MfOwn 0 w c3 M) (by show MfOwn 0 _ _ _;first|exact Twin.own ((Twin.new _ _ _ _).more _ _) HM3.o hT|exact Twin.own (((Twin.new _ _ _ _).more _ _).more _ _) HM3.o hT|exact HM3.o.gr' gw) fun hm9=>?_
   have HM9:=hY hm9;refine(HPM.o c3 _ hm9.is).mono ?_;clear hm9;rintro e w4 ⟨rfl,R4,n4,rfl⟩
   go_wp2_with fail
   refine bodyPost_ret (v:=.tuple #[.agg #[.int .i64 c3.epoch,.int .i64 c3.plans,.slice c3.ao c3.no c3.co,.slice c3.ag c3.ng c3.cg,.slice c3.ae c3.ne c3.ce,.slice c3.ax c3.nx c3.cx,.slice c3.ap c3.np c3.cp],str (Gr.putM putI M),.int .i64 0]) (by simp[results,Tryz.results51,go_sem]) rfl ⟨c3,rfl,?_,gw⟩;have hm5:=HM9.o.gr' (⟨R4,n4,rfl⟩:Grew _ (World.more _ R4 n4))
   first|exact Twin.own (((((Twin.new _ _ _ _).more _ _).more _ _).alloc _).more _ _) hm5 hT|exact Twin.own (((((Twin.new _ _ _ _).more _ _).alloc _).more _ _).more _ _) hm5 hT|exact Twin.own (((((Twin.new _ _ _ _).alloc _).more _ _).more _ _).more _ _) hm5 hT
structure Und (w0 W:World) (bk lg xd mp nb:Nat) (cap:Int) (k:Nat) (ll:Nat) (e0:Int):Prop where
 book:BookAt w0.heap.size W bk mp nb e0
 log:∃av ls,LogAt w0.heap.size W lg xd av ls∧ls.length=ll
 disk:∃ld,DiskAt W xd ld (.slice none 0 0) [] cap∧ld.length=k
 x0:w0.heap.size≤xd
 l0:w0.heap.size≤lg
theorem Und.grew{w0 W W':World}{bk lg xd mp nb:Nat}{cap:Int}{k ll:Nat}{e0:Int}(h:Und w0 W bk lg xd mp nb cap k ll e0)(g:Grew W W'): Und w0 W' bk lg xd mp nb cap k ll e0:=by
 obtain⟨av,ls,h1,h2⟩:=h.log;obtain⟨ld,h3,h4⟩:=h.disk;exact⟨h.book.grew g,⟨av,ls,⟨grew_heap g h1.blk,h1.own.grew g⟩,h2⟩,⟨ld,h3.grew g,h4⟩,h.x0,h.l0⟩
theorem Und.leaves{T:List TypeId}{w0 W W':World}{bk lg xd mp nb:Nat}{cap:Int}{k ll:Nat}{e0:Int}(h:Und w0 W bk lg xd mp nb cap k ll e0)(g:Leaves T W W')(h1:155∉T)(h2:144∉T)(h3:9∉T)(h4:91∉T): Und w0 W' bk lg xd mp nb cap k ll e0:=by
 obtain⟨av,ls,e1,e2⟩:=h.log;obtain⟨ld,e3,e4⟩:=h.disk;exact⟨h.book.leaves g h1,⟨av,ls,⟨g.at e1.blk h2,g.own e1.own h3⟩,e2⟩,⟨ld,e3.leaves g h4,e4⟩,h.x0,h.l0⟩
theorem blk_ne{W:World}{a b:Nat}{c c':Array Value}{t t':TypeId}(h:W.heap[a]? = some (.cells c t))(h':W.heap[b]? = some (.cells c' t'))(ht:t≠t'): a≠b:=by
 rintro rfl;rw[h] at h';cases h';exact ht rfl
theorem rows_tail{W:World}{bq n cq:Nat}{xs:List SlC}(h:RowsAt 1 encSl W (.slice (some ⟨bq,0,none⟩) n cq) xs)(c':Nat)(ad:Addr)(had:ad=⟨bq,1,none⟩∨n=1): RowsAt 1 encSl W (.slice (some ad) (n-1) c') xs.tail:=by
 obtain⟨a,cap,e,hm,hx⟩:=h;cases e;refine⟨some ad,c',by rw[List.length_tail],by rw[List.length_tail];omega,fun hne=>?_⟩;have hl:xs.tail.length≠0:=fun e=>hne (List.length_eq_zero_iff.1 e)
 rw[List.length_tail] at hl;rcases had with rfl|h1
 ·obtain⟨b,off,e,hc⟩:=hx (fun e=>by rw[e] at hl;exact hl rfl);cases e;refine⟨_,1,rfl,fun i x hi j u hu=>?_⟩;have h9:=hc (i+1) x (by rw[List.getElem?_tail] at hi;exact hi) j u hu;rw[show 0+(i+1)*1+j=1+i*1+j by omega] at h9;exact h9
 ·exact absurd h1 (by omega)
theorem rel_tail{α β:Type}{R:α→β→Prop}: ∀{xs:List α} {ys:List β},Rel R xs ys→Rel R xs.tail ys.tail
 | [],[],_=>trivial
 | x::xs,y::ys,h=>h.2
theorem CoAt.one{w0 W W':World}{z bk lg r:Nat}{ms:List Gr.Mf}{m:Gr.Mf}{ps:List (List Gr.Stp)}{uv:Value}{pl:Bool}{last ref:Int}{c:Array Value}(h:CoAt w0 W z bk lg ms m ps uv pl last ref)(hr:W.heap[r]? = some (.cells c 47))(hs:∀q,q≠r→W'.heap[q]? = W.heap[q]?)(ho:∃hv,W.cell? ⟨z,2,none⟩=some hv∧hv.ownBlock≠some r)(hg:Grew w0 W'): CoAt w0 W' z bk lg ms m ps uv pl last ref∧Leaves [47] W W':=by
 have hl:Leaves [47] W W':=fun q o hq hx=>by
  by_cases e:q=r
  ·subst e;rw[hr] at hq;cases hq;exact absurd (by simp) (hx _ _ _ rfl)
  ·rw[hs q e];exact hq
 obtain⟨hv,qv,h1,⟨cs,h2,h3⟩,h4⟩:=h.blk;obtain⟨hv',e1,e2⟩:=ho;have e3:=cell_of (o:=2) h1;rw[e1] at e3;cases e3;have hT:NoData [47]:=by simp[NoData]
 exact⟨⟨⟨_,qv,hl.at h1 (by decide),⟨cs,OwnAt.same h2 fun b hb=>hs b fun e=>e2 (e▸hb),Rel.mono (fun _ _ q=>q.leaves hl hT) h3⟩,h4.leaves hl hT (by decide)⟩,h.ok,h.n,h.z0,hg⟩,hl⟩
theorem calls_gen{fn:Nat}{av:Array Value}{W:World}{Q:Ending→World→Prop}(p:World→Prop)(h:p W)(k:∀w,p w→Calls Tryz.prog fn av w Q): Calls Tryz.prog fn av W Q:=k W h
theorem CoAt.hist2{w0 W:World}{z bk lg:Nat}{ms:List Gr.Mf}{m:Gr.Mf}{ps:List (List Gr.Stp)}{uv:Value}{pl:Bool}{last ref:Int}(h:CoAt w0 W z bk lg ms m ps uv pl last ref): ∃hv,W.cell? ⟨z,2,none⟩=some hv∧∀q,hv.ownBlock=some q→q<W.heap.size:=by
 obtain⟨hv,qv,h1,⟨cs,h2,-⟩,-⟩:=h.blk;refine⟨hv,cell_of (o:=2) h1,fun q hq=>?_⟩;obtain⟨-,c,hc⟩:=OwnAt.block h2 hq;exact heap_lt hc
theorem coCommit_any{w0 W:World}{z bk lg x b n xd mp nb k ll:Nat}{cap e0:Int}{ms:List Gr.Mf}{m:Gr.Mf}{ps:List (List Gr.Stp)}{pl:Bool}{last ref ep:Int}{mm:List (Who×AkC)}(h:CoAt w0 W z bk lg ms m ps (.pointer (some ⟨x,0,none⟩)) pl last ref)(hU:Und w0 W bk lg xd mp nb cap k ll e0)(hG:GatherAt W x b n m.graph ep mm)(hn:n≤1000)(hml:mm.length=(tasksOf m.graph).length)(hf:AllCame W m.graph mm (fun _=>akN))
  (hpl:pl=decide (0<ps.length)) {p:List Gr.Stp} (hp:planOf pl ps=p) (hp9:p.length≤100) (hpm:∀s∈p,s.nd.frm.length≤100∧s.nd.prog.length≤1000) (hpn:m.plans≤1000000) (hz:(planE m.graph p).1=0) (hcl:p.map Gr.cleanS=p) {M:Gr.Mf} (hMe:nextM m ep p (planE m.graph p).2.2=M) (hM:OkH M) (he:m.epoch<ep)
  (hcap:0≤cap∧cap≤16777216) (hroom:((Gr.putM putI M).length:Int)+8≤cap-k) (hk:k+(Gr.putM putI M).length≤900000) (hll:ll≤1000) (hnb:nb≤1000000) (hms:ms.length≤100000) (he0:e0<M.epoch) (hlast:M.epoch≤last) :
  Calls Tryz.prog 18 #[.pointer (some ⟨z,0,none⟩)] W fun e W'=>∃c':MfC,e = .returned (.tuple #[.agg #[.int .i64 c'.epoch,.int .i64 c'.plans,.slice c'.ao c'.no c'.co,.slice c'.ag c'.ng c'.cg,.slice c'.ae c'.ne c'.ce,.slice c'.ax c'.nx c'.cx,.slice c'.ap c'.np c'.cp],.int .i64 0])∧MfOwn 0 W' c' M∧CoAt w0 W' z bk lg (ms++[m]) M (if pl=true then ps.tail else ps) (.pointer none) false last ref∧Und w0 W' bk lg xd mp (nb+1) cap (k+(Gr.putM putI M).length+8) (ll+1) M.epoch∧CL [83,47,155,91,144,9] W W':=by
 obtain⟨hv,qv,h1,h2,h3⟩:=h.blk;have hb:Pre z W:=heap_lt h1;have c1:=cell_of (o:=1) h1;have c4:=cell_of (o:=4) h1;simp at c1 c4;have HRD:=hY fun W' (g:Grew W W')=>coReady_yes (uv:=.pointer none) (grew_heap g h1) rfl (hG.grew g) hn hml
 have HMK:=hY fun W' (g:Grew W W')=>coMake_any (h.grew g) (hG.grew g) hn hml (hf.grew g) hpl hp hp9 hpm hpn hz hcl hMe hM he
 obtain⟨s,hs⟩:∃s,Gr.putM putI M=s:=⟨_,rfl⟩;rw[hs] at HMK hroom hk ⊢;have H:=hY h;have HU:=hY hU;clear hs h1 h2 h3;go_enter Tryz.func18,Tryz.ntmps18
 go_wp2_with (first
  | (go_at_call 27;refine(HRD.o _ gw).mono ?_;rintro e w1 ⟨rfl,R1,n1,rfl⟩)
  | (go_at_call 51;refine(HMK.o _ gw).mono ?_;rintro e w2 ⟨c2,rfl,hm2,R2,n2,rfl⟩;(have HM2:=hY hm2);clear hm2))
 refine calls_gen (fun w=>w.heap[W.heap.size+1+R1.size+R2.size]? = some (.cells #[.int .i64 c2.epoch,.int .i64 c2.plans,.slice c2.ao c2.no c2.co,.slice c2.ag c2.ng c2.cg,.slice c2.ae c2.ne c2.ce,.slice c2.ax c2.nx c2.cx,.slice c2.ap c2.np c2.cp] 47)∧Grew W w∧MfOwn 0 w c2 M∧w.heap[W.heap.size]? = some (.cells #[.int .i64 0,.int .i64 0,.slice none 0 0,.slice none 0 0,.slice none 0 0,.slice none 0 0,.slice none 0 0] 47)) ⟨heap_new_at _ _ _ (by simp[World.size_alloc,World.more_size]),gw,HM2.o.gr' gw,grew_heap gw (heap_new_at W _ _ rfl)⟩ fun w3 hq=>?_
 obtain⟨q4,hq4⟩:∃q4,W.heap.size+1+R1.size+R2.size=q4:=⟨_,rfl⟩;have hqw:W.heap.size<q4:=by omega
 rw[hq4] at hq ⊢;clear HMK HRD HM2 hq4 c1 c4;obtain⟨hb3,hg3,hm3,hr3⟩:=hq;obtain⟨av,ls,hla,hlsl⟩:=HU.o.log;obtain⟨ld,hda,hldk⟩:=HU.o.disk;refine(logAppend_any w0 s (⟨grew_heap hg3 hla.blk,hla.own.grew hg3⟩:LogAt w0.heap.size w3 lg xd av ls) (hda.grew hg3) (H.o.g.trans hg3) HU.o.x0 HU.o.l0 hcap (by rw[hldk];exact hroom) (by rw[hldk];exact hk) (by rw[hlsl];exact hll)).mono ?_;rintro e w4 ⟨rfl,⟨av',hla'⟩,⟨ld',hda',hld'⟩,hl4,hg4⟩;have hTs:NoData [91,144,9]:=by simp[NoData]
 have hT1:NoData [83]:=by simp[NoData]
 have hc4:CoAt w0 w4 z bk lg ms m ps (.pointer (some ⟨x,0,none⟩)) pl last ref:=(H.o.grew hg3).cl hl4.cl hTs (by decide) (by decide) (by decide) hg4;have hk4:BookAt w0.heap.size w4 bk mp nb e0:=(HU.o.book.grew hg3).leaves hl4 (by decide);have hb4:=hl4.at hb3 (by decide);have hm4:=hm3.leaves hl4 hTs;have HR4:=hY (hl4.at hr3 (by decide));have HW4:Hid (CL [91,144,9] W w4):=hY ((CL.grew hg3).trans hl4.cl)
 have hz4:∃hv,w4.cell? ⟨z,2,none⟩=some hv∧∀q,hv.ownBlock=some q→q<W.heap.size:=by
  obtain⟨hv9,qv9,e9,⟨cs9,o9,-⟩,-⟩:=H.o.blk;refine⟨hv9,cell_of (o:=2) (hl4.at (grew_heap hg3 e9) (by decide)),fun q hq=>?_⟩;obtain⟨-,c,hc⟩:=OwnAt.block o9 hq;exact heap_lt hc
 have HC4:=hY hc4;have HK4:=hY hk4;have HB4:=hY hb4;have HM4:=hY hm4;have HZ4:=hY hz4;have HLA4:=hY hla';have HDA4:=hY hda';have HLD4:=hY hld';have HNN:Hid (ls.length=ll∧ld.length=k):=hY ⟨hlsl,hldk⟩;obtain⟨hv5,qv5,e5,-,-⟩:=hc4.blk;have c5:=cell_of (o:=5) e5;simp at c5;have hbz:Pre z w4:=heap_lt e5;clear hr3 hb3 hm3 hla hda hla' hda' hld' hl4 hg4 hc4 hk4 hb4 hm4 hz4 e5 hlsl hldk hb hg3;have HPL:=hY hpl;have HMX:=hY hM;have HX:Hid ((M.out=[]∧nb≤1000000)∧(ms.length≤100000∧e0<M.epoch)∧M.epoch≤last):=hY ⟨⟨by rw[←hMe];rfl,hnb⟩,⟨hms,he0⟩,hlast⟩;clear hpl h hU hG hn hml hf hp hp9 hpm hpn hz hcl hMe hM he hcap hroom hk hll hnb hms he0 hlast;cases pl
 case false =>
  go_wp2_with (go_at_call 15;refine(coAbort_any (HC4.o.grew gw)).mono ?_;rintro e w5 ⟨rfl,hc5,hl5,hz5,hs5⟩;(have hb5:=hl5.at HB4.o (by decide));(have b0:=cell_of (o:=0) hb5);(have b1:=cell_of (o:=1) hb5);(have b2:=cell_of (o:=2) hb5);(have b3:=cell_of (o:=3) hb5);(have b4:=cell_of (o:=4) hb5);(have b5:=cell_of (o:=5) hb5);(have b6:=cell_of (o:=6) hb5);simp at b0 b1 b2 b3 b4 b5 b6;(have pq5:=Pre.mk (heap_lt hb5));(have HC5:=hY hc5);(have HL5:=hY hl5);(have HZ5:=hY hz5);(have HS5:=hY hs5);(have HB5:=hY hb5);(have HR5:=hY (hl5.at (grew_heap gw HR4.o) (by decide)));(have HZ7:Hid (∃hv,w5.cell? ⟨z,2,none⟩=some hv∧∀q,hv.ownBlock=some q→q<W.heap.size):=hY (by obtain⟨hv9,e1,e2⟩:=HZ4.o;exact⟨hv9,hz5.trans (cell_grew e1 gw),e2⟩));(have HK7:=hY ((HK4.o.grew gw).leaves hl5 (by decide)));(have HM7:=hY ((HM4.o.gr' gw).leaves hl5 hT1));(have HCL7:Hid (CL [83] w4 w5):=hY ((CL.grew gw).trans hl5.cl));clear hc5 hl5 hz5 hs5 hb5)
  have hTa:NoData [83,47,155]:=by simp[NoData]
  refine(coHolds_next (c:=c2) HC5.o HK7.o HM7.o HMX.o HX.o.1.2 HX.o.2.1.1 HX.o.2.1.2 HX.o.2.2 HX.o.1.1).mono ?_;rintro e w8 ⟨rfl,hc8,hk8,hcl8,hkp8,hv8,hz8,hob8⟩;obtain⟨hv7,hz7,ho7⟩:=HZ7.o;obtain⟨hvx,qvx,ex,-,-⟩:=HC5.o.blk;obtain⟨mx,hmx,-⟩:=HK7.o.map
  have hnc:∀q c,w5.heap[q]? = some (.cells c 47)→W.heap.size≤q→w8.heap[q]? = w5.heap[q]? :=fun q c hq hl=>hkp8 q (heap_lt hq) (blk_ne hq ex (by decide)) (blk_ne hq HK7.o.blk (by decide)) (fun e=>hmx.nocells _ _ _ (e▸hq)) fun hv h9 e9=>by
   rw[hz7] at h9;cases h9;have:=ho7 q e9;omega
  have hb8:=(hnc q4 _ HB5.o (by omega)).trans HB5.o;have hr8:=(hnc W.heap.size _ HR5.o (Nat.le_refl _)).trans HR5.o;have hm8:=hcl8.mf HM7.o hTa;have HC8:=hY hc8;have HK8:=hY hk8;have HCL8:=hY hcl8;have HM8:=hY hm8;have HR8:=hY hr8
  have HOB8:Hid (∃hv8,w8.cell? ⟨z,2,none⟩=some hv8∧hv8.ownBlock≠some W.heap.size):=hY ⟨hv8,hz8,fun e=>by
   rcases hob8 _ e with h9|h9
   ·have:=ho7 _ (h9 _ hz7);omega
   ·have:=heap_lt HR5.o;omega⟩
  have b0:=cell_of (o:=0) hb8;have b1:=cell_of (o:=1) hb8;have b2:=cell_of (o:=2) hb8;have b3:=cell_of (o:=3) hb8;have b4:=cell_of (o:=4) hb8;have b5:=cell_of (o:=5) hb8;have b6:=cell_of (o:=6) hb8;have r0:=cell_of (o:=0) hr8;have r1:=cell_of (o:=1) hr8;have r2:=cell_of (o:=2) hr8;have r3:=cell_of (o:=3) hr8;have r4:=cell_of (o:=4) hr8;have r5:=cell_of (o:=5) hr8;have r6:=cell_of (o:=6) hr8;have f0:=frozen_of (o:=0) hr8;have f1:=frozen_of (o:=1) hr8;have f2:=frozen_of (o:=2) hr8;have f3:=frozen_of (o:=3) hr8;have f4:=frozen_of (o:=4) hr8;have f5:=frozen_of (o:=5) hr8;have f6:=frozen_of (o:=6) hr8;simp at b0 b1 b2 b3 b4 b5 b6 r0 r1 r2 r3 r4 r5 r6;have pq8:=Pre.mk (heap_lt hb8);have pr8:=Pre.mk (heap_lt hr8);clear hc8 hk8 hcl8 hkp8 hz8 hob8 hz7 ho7 ex hmx hnc hb8 hr8 hm8
  go_wp2_with (go_at_call 49;refine(coOwn_any c2 M _ ((HM8.o.gr' gw).is) HMX.o).mono ?_;rintro e w9 ⟨c9,rfl,hm9,R9,n9,rfl⟩;(have HM9:=hY hm9);clear hm9)
  have hw:w0.heap.size≤W.heap.size:=H.o.g.below.size;have hg9:Grew w0 (((((((w8.setCell ⟨W.heap.size,0,none⟩ (.int .i64 c9.epoch)).setCell ⟨W.heap.size,1,none⟩ (.int .i64 c9.plans)).setCell ⟨W.heap.size,2,none⟩ (.slice c9.ao c9.no c9.co)).setCell ⟨W.heap.size,3,none⟩ (.slice c9.ag c9.ng c9.cg)).setCell ⟨W.heap.size,4,none⟩ (.slice c9.ae c9.ne c9.ce)).setCell ⟨W.heap.size,5,none⟩ (.slice c9.ax c9.nx c9.cx)).setCell ⟨W.heap.size,6,none⟩ (.slice c9.ap c9.np c9.cp)):=((((((HC8.o.g.set hw _).set hw _).set hw _).set hw _).set hw _).set hw _).set hw _
  have hsb:∀q,q≠W.heap.size→(((((((w8.setCell ⟨W.heap.size,0,none⟩ (.int .i64 c9.epoch)).setCell ⟨W.heap.size,1,none⟩ (.int .i64 c9.plans)).setCell ⟨W.heap.size,2,none⟩ (.slice c9.ao c9.no c9.co)).setCell ⟨W.heap.size,3,none⟩ (.slice c9.ag c9.ng c9.cg)).setCell ⟨W.heap.size,4,none⟩ (.slice c9.ae c9.ne c9.ce)).setCell ⟨W.heap.size,5,none⟩ (.slice c9.ax c9.nx c9.cx)).setCell ⟨W.heap.size,6,none⟩ (.slice c9.ap c9.np c9.cp)).heap[q]? = w8.heap[q]? :=fun q h=>by
   repeat rw[set_other (fun e=>h e.symm)]
  have hsz:w8.heap.size=(((((((w8.setCell ⟨W.heap.size,0,none⟩ (.int .i64 c9.epoch)).setCell ⟨W.heap.size,1,none⟩ (.int .i64 c9.plans)).setCell ⟨W.heap.size,2,none⟩ (.slice c9.ao c9.no c9.co)).setCell ⟨W.heap.size,3,none⟩ (.slice c9.ag c9.ng c9.cg)).setCell ⟨W.heap.size,4,none⟩ (.slice c9.ae c9.ne c9.ce)).setCell ⟨W.heap.size,5,none⟩ (.slice c9.ax c9.nx c9.cx)).setCell ⟨W.heap.size,6,none⟩ (.slice c9.ap c9.np c9.cp)).heap.size:=by simp[World.size_setCell]
  have s0:=set_blk (o:=0) (v:=.int .i64 c9.epoch) HR8.o rfl;have s1:=set_blk (o:=1) (v:=.int .i64 c9.plans) s0 rfl;have s2:=set_blk (o:=2) (v:=.slice c9.ao c9.no c9.co) s1 rfl;have s3:=set_blk (o:=3) (v:=.slice c9.ag c9.ng c9.cg) s2 rfl;have s4:=set_blk (o:=4) (v:=.slice c9.ae c9.ne c9.ce) s3 rfl;have s5:=set_blk (o:=5) (v:=.slice c9.ax c9.nx c9.cx) s4 rfl;have s6:=set_blk (o:=6) (v:=.slice c9.ap c9.np c9.cp) s5 rfl;clear s0 s1 s2 s3 s4 s5 b0 b1 b2 b3 b4 b5 b6 r0 r1 r2 r3 r4 r5 r6 f0 f1 f2 f3 f4 f5 f6;generalize ((((((w8.setCell ⟨W.heap.size,0,none⟩ (.int .i64 c9.epoch)).setCell ⟨W.heap.size,1,none⟩ (.int .i64 c9.plans)).setCell ⟨W.heap.size,2,none⟩ (.slice c9.ao c9.no c9.co)).setCell ⟨W.heap.size,3,none⟩ (.slice c9.ag c9.ng c9.cg)).setCell ⟨W.heap.size,4,none⟩ (.slice c9.ae c9.ne c9.ce)).setCell ⟨W.heap.size,5,none⟩ (.slice c9.ax c9.nx c9.cx)).setCell ⟨W.heap.size,6,none⟩ (.slice c9.ap c9.np c9.cp)=WS at *;have y9:=grew_heap (gw:Grew WS (WS.more R9 n9)) s6;have y0:=cell_of (o:=0) y9;have y1:=cell_of (o:=1) y9;have y2:=cell_of (o:=2) y9;have y3:=cell_of (o:=3) y9;have y4:=cell_of (o:=4) y9;have y5:=cell_of (o:=5) y9;have y6:=cell_of (o:=6) y9;simp at y0 y1 y2 y3 y4 y5 y6;have py:=Pre.mk (heap_lt y9);refine bodyPost_ret (v:=.tuple #[.agg #[.int .i64 c9.epoch,.int .i64 c9.plans,.slice c9.ao c9.no c9.co,.slice c9.ag c9.ng c9.cg,.slice c9.ae c9.ne c9.ce,.slice c9.ax c9.nx c9.cx,.slice c9.ap c9.np c9.cp],.int .i64 0]) (by simp[results,Tryz.results18,go_sem,py,y0,y1,y2,y3,y4,y5,y6]) rfl ?_;obtain⟨hcS,hlS⟩:=HC8.o.one HR8.o hsb HOB8.o hg9;have hT9:NoData [47]:=by simp[NoData]
  have ht:Twin 47 w8 WS:=⟨hlS,hsz⟩;have hall:CL [83,47,155] w4 WS:=((HCL7.o.mono (by simp)).trans HCL8.o).trans (hlS.cl.mono (by simp));have hU9:Und w0 WS bk lg xd mp (nb+1) cap (k+s.length+8) (ll+1) M.epoch:=⟨HK8.o.leaves hlS (by decide),⟨av',ls++[s],⟨hall _ _ _ _ HLA4.o.blk (by decide),hall.own HLA4.o.own (by decide)⟩,by rw[List.length_append,HNN.o.1];rfl⟩,⟨ld',⟨hall _ _ _ _ HDA4.o.blk (by decide),OwnAt.nil _,HDA4.o.n1,HDA4.o.len⟩,by rw[HLD4.o,HNN.o.2]⟩,HU.o.x0,HU.o.l0⟩;exact⟨c9,rfl,Twin.own (ht.more R9 n9) HM9.o hT9,hcS.grew gw,hU9.grew gw,((HW4.o.mono (by simp)).trans (hall.mono (by simp))).trans (CL.grew gw)⟩
 case true =>
  have hlen:0<ps.length:=of_decide_eq_true HPL.o.symm;have hlz:(1:Int)≤ps.length:=by omega
  go_wp2_with (go_at_call 15;refine(coAbort_any (HC4.o.grew gw)).mono ?_;rintro e w5 ⟨rfl,hc5,hl5,hz5,hs5⟩;(obtain⟨hv5,qv5,e5,hh5,hq5⟩:=hc5.blk);(obtain⟨aq,cq,rfl,hnq,hxq⟩:=hq5.at);(obtain⟨bq,rfl,hbq,-⟩:=hxq 0 hlen);(have c3:=cell_of (o:=3) e5);(have f3:=frozen_of (o:=3) e5);simp at c3;(have pz5:=Pre.mk (heap_lt e5));(have HE5:=hY e5);(have HQ5:=hY hq5);(have HH5:=hY hh5);(have hb5:=hl5.at HB4.o (by decide));(have b0:=cell_of (o:=0) hb5);(have b1:=cell_of (o:=1) hb5);(have b2:=cell_of (o:=2) hb5);(have b3:=cell_of (o:=3) hb5);(have b4:=cell_of (o:=4) hb5);(have b5:=cell_of (o:=5) hb5);(have b6:=cell_of (o:=6) hb5);simp at b0 b1 b2 b3 b4 b5 b6;(have pq5:=Pre.mk (heap_lt hb5));(have HC5:=hY hc5);(have HL5:=hY hl5);(have HZ5:=hY hz5);(have HS5:=hY hs5);(have HB5:=hY hb5);(have HR5:=hY (hl5.at (grew_heap gw HR4.o) (by decide)));(have HZ7:Hid (∃hv,w5.cell? ⟨z,2,none⟩=some hv∧∀q,hv.ownBlock=some q→q<W.heap.size):=hY (by obtain⟨hv9,e1,e2⟩:=HZ4.o;exact⟨hv9,hz5.trans (cell_grew e1 gw),e2⟩));(have HK7:=hY ((HK4.o.grew gw).leaves hl5 (by decide)));(have HM7:=hY ((HM4.o.gr' gw).leaves hl5 hT1));(have HCL7:Hid (CL [83] w4 w5):=hY ((CL.grew gw).trans hl5.cl));clear hc5 hl5 hz5 hs5 hb5 e5 hq5 hxq hh5)
  all_goals
   obtain⟨qs,hoq,hrq⟩:=HQ5.o;have hql:=Rel.len hrq;have hnz:z≠q4:=blk_ne HE5.o HB5.o (by decide)
   have hcap:ps.length≤cq:=by
    rcases hoq.form with ⟨e,-⟩|⟨b,c,e,-,e2,-⟩
    ·cases e
    ·rw[hql] at e e2;cases e;exact e2
   refine(cloneSl_any (rows_tail (OwnAt.rows hoq encSl_len) _ _ (by first|exact .inl rfl|(right;omega))) (by have:=HC5.o.n;rw[List.length_tail];omega)).mono ?_;rintro e w1 ⟨v1,rfl,ho1,R1,n1,rfl⟩;have HO1:=hY ho1;have HRQ:=hY hrq;obtain⟨a1,m1,c1,rfl⟩:=own_sl ho1;clear ho1 hoq hrq hql
   go_wp2_with fail
   have e7:=set_blk (o:=3) (v:=.slice a1 m1 c1) HE5.o rfl;have hl7:=(Leaves.refl [83] w5).set (o:=3) (v:=.slice a1 m1 c1) HE5.o (by simp);have hg7:=HC5.o.g.set (o:=3) HC5.o.z0 (.slice a1 m1 c1);have ht7:Twin 83 w5 (w5.setCell ⟨z,3,none⟩ (.slice a1 m1 c1)):=⟨hl7,by simp[World.size_setCell]⟩;have hz9:(w5.setCell ⟨z,3,none⟩ (.slice a1 m1 c1)).cell? ⟨z,2,none⟩=w5.cell? ⟨z,2,none⟩:=(cell_of (o:=2) e7).trans (cell_of (o:=2) HE5.o).symm;clear c3 f3 b0 b1 b2 b3 b4 b5 b6 pq5 pz5;generalize w5.setCell ⟨z,3,none⟩ (.slice a1 m1 c1)=WS7 at *;have hc7:CoAt w0 (WS7.more R1 n1) z bk lg ms m ps.tail (.pointer none) false last ref:=⟨⟨_,_,grew_heap gw e7,(HH5.o.leaves hl7 hT1 (by decide)).grew gw,⟨qs.tail,OwnAt.low ((ht7.more R1 n1).1.own HO1.o (by decide)) HC5.o.g.below.size,Rel.mono (fun _ _ q=>⟨(q.1.leaves hl7 hT1).grew gw,q.2⟩) (rel_tail HRQ.o)⟩⟩,HC5.o.ok,by have:=HC5.o.n;rw[List.length_tail];omega,HC5.o.z0,hg7.trans gw⟩;refine calls_gen (fun w7=>CoAt w0 w7 z bk lg ms m ps.tail (.pointer none) false last ref∧BookAt w0.heap.size w7 bk mp nb e0∧MfOwn 0 w7 c2 M∧w7.heap[q4]? = some (.cells #[.int .i64 c2.epoch,.int .i64 c2.plans,.slice c2.ao c2.no c2.co,.slice c2.ag c2.ng c2.cg,.slice c2.ae c2.ne c2.ce,.slice c2.ax c2.nx c2.cx,.slice c2.ap c2.np c2.cp] 47)∧w7.heap[W.heap.size]? = some (.cells #[.int .i64 0,.int .i64 0,.slice none 0 0,.slice none 0 0,.slice none 0 0,.slice none 0 0,.slice none 0 0] 47)∧(∃hv,w7.cell? ⟨z,2,none⟩=some hv∧∀q,hv.ownBlock=some q→q<W.heap.size)∧CL [83] w4 w7) ⟨hc7,(HK7.o.leaves hl7 (by decide)).grew gw,(HM7.o.leaves hl7 hT1).gr' gw,grew_heap gw (hl7.at HB5.o (by decide)),grew_heap gw (hl7.at HR5.o (by decide)),by obtain⟨hv9,e1,e2⟩:=HZ7.o;exact⟨hv9,cell_grew (hz9.trans e1) gw,e2⟩,(HCL7.o.trans hl7.cl).trans (CL.grew gw)⟩ fun w7 hq7=>?_
   clear hbq hc7 ht7 hl7 hg7 hz9 e7 HO1 HRQ HC5 HK7 HM7 HB5 HR5 HZ7 HCL7 HE5 HQ5 HH5 HL5 HS5 HZ5;clear WS7;clear w5;obtain⟨hc7,hk7,hm7,hb7,hr7,hz7,hcl7⟩:=hq7;have HC5:=hY hc7;have HK7:=hY hk7;have HM7:=hY hm7;have HB5:=hY hb7;have HR5:=hY hr7;have HZ7:=hY hz7;have HCL7:=hY hcl7;clear hc7 hk7 hm7 hb7 hr7 hz7 hcl7;rename World=>w5;have hTa:NoData [83,47,155]:=by simp[NoData]
   refine(coHolds_next (c:=c2) HC5.o HK7.o HM7.o HMX.o HX.o.1.2 HX.o.2.1.1 HX.o.2.1.2 HX.o.2.2 HX.o.1.1).mono ?_;rintro e w8 ⟨rfl,hc8,hk8,hcl8,hkp8,hv8,hz8,hob8⟩;obtain⟨hv7,hz7,ho7⟩:=HZ7.o;obtain⟨hvx,qvx,ex,-,-⟩:=HC5.o.blk;obtain⟨mx,hmx,-⟩:=HK7.o.map
   have hnc:∀q c,w5.heap[q]? = some (.cells c 47)→W.heap.size≤q→w8.heap[q]? = w5.heap[q]? :=fun q c hq hl=>hkp8 q (heap_lt hq) (blk_ne hq ex (by decide)) (blk_ne hq HK7.o.blk (by decide)) (fun e=>hmx.nocells _ _ _ (e▸hq)) fun hv h9 e9=>by
    rw[hz7] at h9;cases h9;have:=ho7 q e9;omega
   have hb8:=(hnc q4 _ HB5.o (by omega)).trans HB5.o;have hr8:=(hnc W.heap.size _ HR5.o (Nat.le_refl _)).trans HR5.o;have hm8:=hcl8.mf HM7.o hTa;have HC8:=hY hc8;have HK8:=hY hk8;have HCL8:=hY hcl8;have HM8:=hY hm8;have HR8:=hY hr8
   have HOB8:Hid (∃hv8,w8.cell? ⟨z,2,none⟩=some hv8∧hv8.ownBlock≠some W.heap.size):=hY ⟨hv8,hz8,fun e=>by
    rcases hob8 _ e with h9|h9
    ·have:=ho7 _ (h9 _ hz7);omega
    ·have:=heap_lt HR5.o;omega⟩
   have b0:=cell_of (o:=0) hb8;have b1:=cell_of (o:=1) hb8;have b2:=cell_of (o:=2) hb8;have b3:=cell_of (o:=3) hb8;have b4:=cell_of (o:=4) hb8;have b5:=cell_of (o:=5) hb8;have b6:=cell_of (o:=6) hb8;have r0:=cell_of (o:=0) hr8;have r1:=cell_of (o:=1) hr8;have r2:=cell_of (o:=2) hr8;have r3:=cell_of (o:=3) hr8;have r4:=cell_of (o:=4) hr8;have r5:=cell_of (o:=5) hr8;have r6:=cell_of (o:=6) hr8;have f0:=frozen_of (o:=0) hr8;have f1:=frozen_of (o:=1) hr8;have f2:=frozen_of (o:=2) hr8;have f3:=frozen_of (o:=3) hr8;have f4:=frozen_of (o:=4) hr8;have f5:=frozen_of (o:=5) hr8;have f6:=frozen_of (o:=6) hr8;simp at b0 b1 b2 b3 b4 b5 b6 r0 r1 r2 r3 r4 r5 r6;have pq8:=Pre.mk (heap_lt hb8);have pr8:=Pre.mk (heap_lt hr8);clear hc8 hk8 hcl8 hkp8 hz8 hob8 hz7 ho7 ex hmx hnc hb8 hr8 hm8
   go_wp2_with (go_at_call 49;refine(coOwn_any c2 M _ ((HM8.o.gr' gw).is) HMX.o).mono ?_;rintro e w9 ⟨c9,rfl,hm9,R9,n9,rfl⟩;(have HM9:=hY hm9);clear hm9)
   have hw:w0.heap.size≤W.heap.size:=H.o.g.below.size;have hg9:Grew w0 (((((((w8.setCell ⟨W.heap.size,0,none⟩ (.int .i64 c9.epoch)).setCell ⟨W.heap.size,1,none⟩ (.int .i64 c9.plans)).setCell ⟨W.heap.size,2,none⟩ (.slice c9.ao c9.no c9.co)).setCell ⟨W.heap.size,3,none⟩ (.slice c9.ag c9.ng c9.cg)).setCell ⟨W.heap.size,4,none⟩ (.slice c9.ae c9.ne c9.ce)).setCell ⟨W.heap.size,5,none⟩ (.slice c9.ax c9.nx c9.cx)).setCell ⟨W.heap.size,6,none⟩ (.slice c9.ap c9.np c9.cp)):=((((((HC8.o.g.set hw _).set hw _).set hw _).set hw _).set hw _).set hw _).set hw _
   have hsb:∀q,q≠W.heap.size→(((((((w8.setCell ⟨W.heap.size,0,none⟩ (.int .i64 c9.epoch)).setCell ⟨W.heap.size,1,none⟩ (.int .i64 c9.plans)).setCell ⟨W.heap.size,2,none⟩ (.slice c9.ao c9.no c9.co)).setCell ⟨W.heap.size,3,none⟩ (.slice c9.ag c9.ng c9.cg)).setCell ⟨W.heap.size,4,none⟩ (.slice c9.ae c9.ne c9.ce)).setCell ⟨W.heap.size,5,none⟩ (.slice c9.ax c9.nx c9.cx)).setCell ⟨W.heap.size,6,none⟩ (.slice c9.ap c9.np c9.cp)).heap[q]? = w8.heap[q]? :=fun q h=>by
    repeat rw[set_other (fun e=>h e.symm)]
   have hsz:w8.heap.size=(((((((w8.setCell ⟨W.heap.size,0,none⟩ (.int .i64 c9.epoch)).setCell ⟨W.heap.size,1,none⟩ (.int .i64 c9.plans)).setCell ⟨W.heap.size,2,none⟩ (.slice c9.ao c9.no c9.co)).setCell ⟨W.heap.size,3,none⟩ (.slice c9.ag c9.ng c9.cg)).setCell ⟨W.heap.size,4,none⟩ (.slice c9.ae c9.ne c9.ce)).setCell ⟨W.heap.size,5,none⟩ (.slice c9.ax c9.nx c9.cx)).setCell ⟨W.heap.size,6,none⟩ (.slice c9.ap c9.np c9.cp)).heap.size:=by simp[World.size_setCell]
   have s0:=set_blk (o:=0) (v:=.int .i64 c9.epoch) HR8.o rfl;have s1:=set_blk (o:=1) (v:=.int .i64 c9.plans) s0 rfl;have s2:=set_blk (o:=2) (v:=.slice c9.ao c9.no c9.co) s1 rfl;have s3:=set_blk (o:=3) (v:=.slice c9.ag c9.ng c9.cg) s2 rfl;have s4:=set_blk (o:=4) (v:=.slice c9.ae c9.ne c9.ce) s3 rfl;have s5:=set_blk (o:=5) (v:=.slice c9.ax c9.nx c9.cx) s4 rfl;have s6:=set_blk (o:=6) (v:=.slice c9.ap c9.np c9.cp) s5 rfl;clear s0 s1 s2 s3 s4 s5 b0 b1 b2 b3 b4 b5 b6 r0 r1 r2 r3 r4 r5 r6 f0 f1 f2 f3 f4 f5 f6;generalize ((((((w8.setCell ⟨W.heap.size,0,none⟩ (.int .i64 c9.epoch)).setCell ⟨W.heap.size,1,none⟩ (.int .i64 c9.plans)).setCell ⟨W.heap.size,2,none⟩ (.slice c9.ao c9.no c9.co)).setCell ⟨W.heap.size,3,none⟩ (.slice c9.ag c9.ng c9.cg)).setCell ⟨W.heap.size,4,none⟩ (.slice c9.ae c9.ne c9.ce)).setCell ⟨W.heap.size,5,none⟩ (.slice c9.ax c9.nx c9.cx)).setCell ⟨W.heap.size,6,none⟩ (.slice c9.ap c9.np c9.cp)=WS at *;have y9:=grew_heap (gw:Grew WS (WS.more R9 n9)) s6;have y0:=cell_of (o:=0) y9;have y1:=cell_of (o:=1) y9;have y2:=cell_of (o:=2) y9;have y3:=cell_of (o:=3) y9;have y4:=cell_of (o:=4) y9;have y5:=cell_of (o:=5) y9;have y6:=cell_of (o:=6) y9;simp at y0 y1 y2 y3 y4 y5 y6;have py:=Pre.mk (heap_lt y9);refine bodyPost_ret (v:=.tuple #[.agg #[.int .i64 c9.epoch,.int .i64 c9.plans,.slice c9.ao c9.no c9.co,.slice c9.ag c9.ng c9.cg,.slice c9.ae c9.ne c9.ce,.slice c9.ax c9.nx c9.cx,.slice c9.ap c9.np c9.cp],.int .i64 0]) (by simp[results,Tryz.results18,go_sem,py,y0,y1,y2,y3,y4,y5,y6]) rfl ?_;obtain⟨hcS,hlS⟩:=HC8.o.one HR8.o hsb HOB8.o hg9;have hT9:NoData [47]:=by simp[NoData]
   have ht:Twin 47 w8 WS:=⟨hlS,hsz⟩;have hall:CL [83,47,155] w4 WS:=((HCL7.o.mono (by simp)).trans HCL8.o).trans (hlS.cl.mono (by simp));have hU9:Und w0 WS bk lg xd mp (nb+1) cap (k+s.length+8) (ll+1) M.epoch:=⟨HK8.o.leaves hlS (by decide),⟨av',ls++[s],⟨hall _ _ _ _ HLA4.o.blk (by decide),hall.own HLA4.o.own (by decide)⟩,by rw[List.length_append,HNN.o.1];rfl⟩,⟨ld',⟨hall _ _ _ _ HDA4.o.blk (by decide),OwnAt.nil _,HDA4.o.n1,HDA4.o.len⟩,by rw[HLD4.o,HNN.o.2]⟩,HU.o.x0,HU.o.l0⟩;exact⟨c9,rfl,Twin.own (ht.more R9 n9) HM9.o hT9,hcS.grew gw,hU9.grew gw,((HW4.o.mono (by simp)).trans (hall.mono (by simp))).trans (CL.grew gw)⟩
theorem sinkNew2_any(w:World): Calls Tryz.prog 38 #[] w fun e w'=>∃bk mp:Nat,e = .returned (.pointer (some ⟨bk,0,none⟩))∧w'.heap[bk]? = some (.cells #[.slice none 0 0,.map (some mp),.int .i64 0] 155)∧MapAt intS w' mp 0 []∧w.heap.size≤bk∧w.heap.size≤mp∧Grew w w':=by
 have hmm:=@run_makeMap Tryz.prog;go_enter Tryz.func38,Tryz.ntmps38;go_wp2;go_ret;refine⟨_,_,rfl,heap_new_at _ _ _ (by simp[World.size_alloc]),(MapAt.made intS w).grew gw,?_,?_,gw⟩
 ·simp[World.size_alloc]
 ·exact Nat.le_refl _
theorem coOpen_und{w0 W:World}{x:Nat}{cap:Int}{v:Value}{g:List Gr.Nd}(hd:DiskAt W x [] (.slice none 0 0) [] cap)(hv:∀W',Leaves [91] W W'→Grew w0 W'→NodesAt W' v g)(hs:Small g)(hr:Gr.RightR g)(h8:∀n∈g,n.route.length=8)(hg:Grew w0 W)(hx:w0.heap.size≤x)(hc:0≤cap∧cap≤16777216)(hl:((Gr.putM putI (firstM g)).length:Int)+8≤cap):
  Calls Tryz.prog 8 #[.pointer (some ⟨x,0,none⟩),v] W fun e W'=>∃z bk lg mp,e = .returned (.tuple #[.pointer (some ⟨z,0,none⟩),.int .i64 0])∧CoAt w0 W' z bk lg [] (firstM g) [] (.pointer none) false 0 0∧Und w0 W' bk lg x mp 0 cap ((Gr.putM putI (firstM g)).length+8) 1 0:=by
 have HLO:=hY (logOpen_nil w0 hd hg hx);have hsl:=first_len hr h8;have HOK:=hY (first_okH hr hs h8);have HV:=hY hv;have HFI:=hY fun W' (hn:NodesAt W' v g)=>first_any v g W' hn hs
 have HRR:=hY hr;have HX:=hY hx;have HPM:=hY fun(c:MfC) W' (h:MfIs W' c (firstM g))=>packMan_ok c (firstM g) W' h HOK.o.s HOK.o.p HOK.o.o HOK.o.r
 have HGM:=hY fun W'=>getManO_any (Gr.putM putI (firstM g)) W' HOK.o.l
 rw[getM_back HOK.o.r HOK.o.h8] at HGM;obtain⟨s,hse⟩:∃s,Gr.putM putI (firstM g)=s:=⟨_,rfl⟩;rw[hse] at hsl hl HPM HGM ⊢;have HSL:=hY hsl;have HL:=hY hl;have HC:=hY hc;clear hse hsl hl hc hd hv hs hr h8 hg hx;go_enter Tryz.func8,Tryz.ntmps8
 go_wp2_with (first
  | (go_at_call 33;refine HLO.o.mono ?_;rintro e wA ⟨y,rfl,hy,hla,hda,hlv,hga⟩;(have HY:=hY hy);(have HLA:=hY hla);(have HDA:=hY hda);(have HLV:=hY hlv);(have HGA:=hY hga);clear hy hla hda hlv hga)
  | (go_at_call 34;refine(logLen_any (HLA.o)).mono ?_;rintro e w1 ⟨rfl,R1,n1,rfl⟩)
  | (go_at_call 35;refine(HFI.o _ (HV.o _ (HLV.o.trans (Leaves.grew gw)) (HGA.o.trans gw))).mono ?_;rintro e w2 ⟨h9,-,R2,n2,rfl⟩;obtain⟨ao,co,ag,cg,rfl,hi9,hn9⟩:=h9 HRR.o;(have HI9:=hY hi9);(have HN9:=hY hn9);clear h9 hi9 hn9))
 refine(HPM.o ⟨0,0,ao,(parOf g).toNat,co,ag,(Gr.normG g).length,cg,none,0,0,none,0,0,none,0,0⟩ _ ⟨rfl,rfl,HI9.o.grew gw,HN9.o.grew gw,RowsAt.nil,RowsAt.nil,StepsAt.nil _⟩).mono ?_;rintro e w3 ⟨rfl,R3,n3,rfl⟩
 go_wp2_with (first
  | (go_at_call 37;refine(logAppend_any w0 s (⟨grew_heap gw HLA.o.blk,HLA.o.own.grew gw⟩) (HDA.o.grew gw) (HGA.o.trans gw) HX.o HY.o HC.o (by have:=HL.o;simp;omega) (by have:=HSL.o;simp;omega) (by simp)).mono ?_;rintro e wB ⟨rfl,⟨av,hlb⟩,⟨ld,hdb,hld⟩,hlv2,hgb⟩;(have HDB:=hY hdb);(have HLD:=hY hld);(have HLB:=hY hlb);(have HLV2:=hY hlv2);(have HGB:=hY hgb);clear hlb hdb hld hlv2 hgb)
  | (go_at_call 38;refine(sinkNew2_any _).mono ?_;rintro e w4 ⟨bk,mp,rfl,hbk,hbm,hb0,hm0,R4,n4,rfl⟩;(have HBK:=hY hbk);(have HBM:=hY hbm);(have HB0:=hY hb0);(have HM0:=hY hm0);clear hbk hbm hb0 hm0)
  | (go_at_call 39;refine(logAll_any (⟨grew_heap gw HLB.o.blk,HLB.o.own.grew gw⟩:LogAt w0.heap.size _ y x av ([]++[s])) (by simp)).mono ?_;rintro e w5 ⟨v5,rfl,ho5,R5,n5,rfl⟩;obtain⟨b5,c5,rfl⟩:=own_some' ho5 (by simp);(have HO5:=hY ho5);clear ho5))
 have hzc:(((wB.more R4 n4).alloc (.cells #[.pointer (some ⟨bk,0,none⟩),.pointer (some ⟨y,0,none⟩),.slice none 0 0,.slice none 0 0,.pointer none,.bool false,.int .i64 0,.int .i64 0] 83)).more R5 n5).heap[wB.heap.size+R4.size]? = some (.cells #[.pointer (some ⟨bk,0,none⟩),.pointer (some ⟨y,0,none⟩),.slice none 0 0,.slice none 0 0,.pointer none,.bool false,.int .i64 0,.int .i64 0] 83):=grew_heap (gw:Grew ((wB.more R4 n4).alloc (.cells #[.pointer (some ⟨bk,0,none⟩),.pointer (some ⟨y,0,none⟩),.slice none 0 0,.slice none 0 0,.pointer none,.bool false,.int .i64 0,.int .i64 0] 83)) _) (heap_new_at _ _ _ (by simp[World.more_size]));have hbk:(((wB.more R4 n4).alloc (.cells #[.pointer (some ⟨bk,0,none⟩),.pointer (some ⟨y,0,none⟩),.slice none 0 0,.slice none 0 0,.pointer none,.bool false,.int .i64 0,.int .i64 0] 83)).more R5 n5).heap[bk]? = _:=grew_heap (gw:Grew (wB.more R4 n4) _) HBK.o;have hgl:Grew w0 (((wB.more R4 n4).alloc (.cells #[.pointer (some ⟨bk,0,none⟩),.pointer (some ⟨y,0,none⟩),.slice none 0 0,.slice none 0 0,.pointer none,.bool false,.int .i64 0,.int .i64 0] 83)).more R5 n5):=HGB.o.trans gw;have hz0:w0.heap.size≤wB.heap.size+R4.size:=Nat.le_trans HGB.o.below.size (Nat.le_add_right _ _)
 have hs5:(((wB.more R4 n4).alloc (.cells #[.pointer (some ⟨bk,0,none⟩),.pointer (some ⟨y,0,none⟩),.slice none 0 0,.slice none 0 0,.pointer none,.bool false,.int .i64 0,.int .i64 0] 83)).more R5 n5).cell? ⟨b5,0,none⟩=some (.string ⟨s.toArray⟩):=by
  obtain⟨a6,c6,e6,-,hx⟩:=OwnAt.rows HO5.o encS_len;cases e6;obtain⟨b6,off,e7,hx⟩:=hx (by simp);cases e7;exact hx 0 s rfl 0 _ rfl
 have huw:Und w0 (((wB.more R4 n4).alloc (.cells #[.pointer (some ⟨bk,0,none⟩),.pointer (some ⟨y,0,none⟩),.slice none 0 0,.slice none 0 0,.pointer none,.bool false,.int .i64 0,.int .i64 0] 83)).more R5 n5) bk y x mp 0 cap (s.length+8) 1 0:=⟨⟨grew_heap gw HBK.o,⟨[],HBM.o.grew gw,fun x hx=>by cases hx⟩,Nat.le_trans HGB.o.below.size (Nat.le_trans (Grew.below (gw:Grew wB _)).size HB0.o),Nat.le_trans HGB.o.below.size (Nat.le_trans (Grew.below (gw:Grew wB _)).size HM0.o)⟩,⟨av,[]++[s],⟨grew_heap gw HLB.o.blk,HLB.o.own.grew gw⟩,rfl⟩,⟨ld,HDB.o.grew gw,by rw[HLD.o];simp⟩,HX.o,HY.o⟩;have HUW:=hY huw;clear huw;obtain⟨z,hz⟩:∃z,wB.heap.size+R4.size=z:=⟨_,rfl⟩;rw[hz] at hzc hz0 ⊢;generalize ((wB.more R4 n4).alloc (.cells #[.pointer (some ⟨bk,0,none⟩),.pointer (some ⟨y,0,none⟩),.slice none 0 0,.slice none 0 0,.pointer none,.bool false,.int .i64 0,.int .i64 0] 83)).more R5 n5=WL at *;have HZC:=hY hzc;have HBL:=hY hbk;have HGL:=hY hgl;have HZ0:=hY hz0;have HS5:=hY hs5;clear hzc hbk hgl hz0 hs5 hz
 go_loopg [55] 1 (fun gg s55 wr=>(s55 = .int .i64 0∧gg=1∧Hid (Grew WL wr))∨(s55 = .int .i64 1∧Hid (CoAt w0 wr z bk y [] (firstM g) [] (.pointer none) false 0 0∧Und w0 wr bk y x mp 0 cap (s.length+8) 1 0)))
 case atStart=>exact .inl ⟨rfl,rfl,hY (Grew.refl _)⟩
 case round =>
  rename World=>wa;rcases hrel with ⟨rfl,rfl,HG⟩|⟨rfl,HCO⟩
  ·have h5:=cell_grew HS5.o HG.o;have hb5:=Pre.ofCell h5
   go_wp2_with (first
    | (go_at_call 40;refine(HGM.o _).mono ?_;rintro e w6 ⟨⟨ep2,pl2,ao2,no2,co2,ag2,ng2,cg2,ae2,ne2,ce2,ax2,nx2,cx2,ap2,np2,cp2⟩,rfl,hm,R6,n6,rfl⟩;obtain rfl:ep2=0:=hm.epoch.symm;obtain rfl:pl2=0:=hm.plans.symm;(obtain rfl:ne2=0:=by obtain⟨_,_,e⟩:=(OwnAt.rows hm.e encEn_len).len;exact(Value.slice.inj e).2.1);(obtain rfl:nx2=0:=by obtain⟨_,_,e⟩:=(OwnAt.rows hm.x encLn_len).len;exact(Value.slice.inj e).2.1);(obtain rfl:np2=0:=by obtain⟨_,_,e,-⟩:=hm.is.p.openC;exact(Value.slice.inj e).2.1);(have HM:=hY hm.low);clear hm)
    | (go_at_call 41;refine(coFollows_nil (c:=⟨0,0,ao2,no2,co2,ag2,ng2,cg2,ae2,0,ce2,ax2,0,cx2,ap2,0,cp2⟩) (grew_heap (HG.o.trans gw) HZC.o) rfl rfl rfl rfl rfl rfl).mono ?_;rintro e w7 ⟨rfl,R7,n7,rfl⟩)
    | (go_at_call 42;refine(coHolds_first (w0:=w0) (c:=⟨0,0,ao2,no2,co2,ag2,ng2,cg2,ae2,0,ce2,ax2,0,cx2,ap2,0,cp2⟩) (grew_heap (HG.o.trans gw) HZC.o) (grew_heap (HG.o.trans gw) HBL.o) (HM.o.grew gw) rfl HOK.o (HGL.o.trans (HG.o.trans gw)) HZ0.o).mono ?_;rintro e w8 ⟨rfl,hco,hl8⟩;(have HCO:=hY hco);(have HU8:=hY ((HUW.o.grew (HG.o.trans gw)).leaves hl8 (by decide) (by decide) (by decide) (by decide)));clear hco hl8))
   go_roundg 0
   case measure=>omega
   case rel=>exact .inr ⟨by go_num,hY ⟨HCO.o.grew gw,HU8.o.grew gw⟩⟩
  ·go_wp2;go_ret2;exact⟨z,bk,y,mp,rfl,HCO.o.1.grew gw,HCO.o.2.grew gw⟩
end Go.Proofs.YtipgfjihdglocaaGreat
