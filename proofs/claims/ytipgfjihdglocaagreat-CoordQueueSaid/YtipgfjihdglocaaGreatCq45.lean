import Derived.Test.YtipgfjihdglocaaGreatCq42
import Derived.Test.YtipgfjihdglocaaGreatCq5
import Derived.Test.YtipgfjihdglocaaGreatCq28
import Derived.Test.YtipgfjihdglocaaGreatCq36
import Derived.Test.YtipgfjihdglocaaGreatCq0
import Derived.Test.YtipgfjihdglocaaGreatCq33
import Derived.Test.YtipgfjihdglocaaGreatCq11
set_option linter.unusedSimpArgs false
set_option linter.unusedVariables false
set_option maxRecDepth 100000
set_option maxHeartbeats 64000000
namespace Go.Proofs.YtipgfjihdglocaaGreat
open Go.RowKit Ga
theorem first_rightM{g:List Gr.Nd}(h:Gr.RightR g): Gr.RightM fitsP (firstM g):=rightB_iff.1 (first_right h)
theorem first_h8{g:List Gr.Nd}(h:Gr.RightR g)(h8:∀n∈g,n.route.length=8): ∀n∈(firstM g).graph,n.route.length=8:=fun n hn=>h8 n ((Gr.normG_mem h.ids h.r7 n).1 hn)
theorem first_len{g:List Gr.Nd}(h:Gr.RightR g)(h8:∀n∈g,n.route.length=8): (Gr.putM putI (firstM g)).length≤4000:=by
 have hr:=first_rightM h;obtain⟨ho1,ho3⟩:=offs_len hr (first_h8 h h8);have h1:(Gr.putG putI (firstM g).graph).length≤3000:=putG_len hr.gr (first_h8 h h8);rw[putM_eq];unfold Gr.putG at h1;rw[graph_self hr] at h1;have e1:(firstM g).ents=[]:=rfl;have e2:(firstM g).out=[]:=rfl;have e3:(firstM g).plan=[]:=rfl;rw[e1,e2,e3,planBy_nil];simp only[List.length_append,Oc.bes_len,Oc.be_len,List.length_cons,List.length_nil,List.flatMap_nil] at h1 ⊢;omega
theorem first_okH{g:List Gr.Nd}(h:Gr.RightR g)(hs:Small g)(h8:∀n∈g,n.route.length=8): OkH (firstM g) :=
 ⟨first_rightM h,small_norm h hs,(fun s hs=>by cases hs),Nat.zero_le _,first_h8 h h8,by have:=first_len h h8;omega⟩
theorem coOpen_new{w0 W:World}{x:Nat}{cap:Int}{v:Value}{g:List Gr.Nd}(hd:DiskAt W x [] (.slice none 0 0) [] cap)(hv:∀W',Leaves [91] W W'→Grew w0 W'→NodesAt W' v g)(hs:Small g)(hr:Gr.RightR g)(h8:∀n∈g,n.route.length=8)(hg:Grew w0 W)(hx:w0.heap.size≤x)(hc:0≤cap∧cap≤16777216)(hl:((Gr.putM putI (firstM g)).length:Int)+8≤cap):
  Calls Tryz.prog 8 #[.pointer (some ⟨x,0,none⟩),v] W fun e W'=>∃z bk lg,e = .returned (.tuple #[.pointer (some ⟨z,0,none⟩),.int .i64 0])∧CoAt w0 W' z bk lg [] (firstM g) [] (.pointer none) false 0 0:=by
 have HLO:=hY (logOpen_nil w0 hd hg hx);have hsl:=first_len hr h8;have HOK:=hY (first_okH hr hs h8);have HV:=hY hv;have HFI:=hY fun W' (hn:NodesAt W' v g)=>first_any v g W' hn hs
 have HRR:=hY hr;have HX:=hY hx;have HPM:=hY fun(c:MfC) W' (h:MfIs W' c (firstM g))=>packMan_ok c (firstM g) W' h HOK.o.s HOK.o.p HOK.o.o HOK.o.r
 have HGM:=hY fun W'=>getManO_any (Gr.putM putI (firstM g)) W' HOK.o.l
 rw[getM_back HOK.o.r HOK.o.h8] at HGM;obtain⟨s,hse⟩:∃s,Gr.putM putI (firstM g)=s:=⟨_,rfl⟩;rw[hse] at hsl hl HPM HGM;have HSL:=hY hsl;have HL:=hY hl;have HC:=hY hc;clear hse hsl hl hc hd hv hs hr h8 hg hx;go_enter Tryz.func8,Tryz.ntmps8
 go_wp2_with (first
  | (go_at_call 33;refine HLO.o.mono ?_;rintro e wA ⟨y,rfl,hy,hla,hda,hlv,hga⟩;(have HY:=hY hy);(have HLA:=hY hla);(have HDA:=hY hda);(have HLV:=hY hlv);(have HGA:=hY hga);clear hy hla hda hlv hga)
  | (go_at_call 34;refine(logLen_any (HLA.o)).mono ?_;rintro e w1 ⟨rfl,R1,n1,rfl⟩)
  | (go_at_call 35;refine(HFI.o _ (HV.o _ (HLV.o.trans (Leaves.grew gw)) (HGA.o.trans gw))).mono ?_;rintro e w2 ⟨h9,-,R2,n2,rfl⟩;obtain⟨ao,co,ag,cg,rfl,hi9,hn9⟩:=h9 HRR.o;(have HI9:=hY hi9);(have HN9:=hY hn9);clear h9 hi9 hn9))
 refine(HPM.o ⟨0,0,ao,(parOf g).toNat,co,ag,(Gr.normG g).length,cg,none,0,0,none,0,0,none,0,0⟩ _ ⟨rfl,rfl,HI9.o.grew gw,HN9.o.grew gw,RowsAt.nil,RowsAt.nil,StepsAt.nil _⟩).mono ?_;rintro e w3 ⟨rfl,R3,n3,rfl⟩
 go_wp2_with (first
  | (go_at_call 37;refine(logAppend_any w0 s (⟨grew_heap gw HLA.o.blk,HLA.o.own.grew gw⟩) (HDA.o.grew gw) (HGA.o.trans gw) HX.o HY.o HC.o (by have:=HL.o;simp;omega) (by have:=HSL.o;simp;omega) (by simp)).mono ?_;rintro e wB ⟨rfl,⟨av,hlb⟩,-,hlv2,hgb⟩;(have HLB:=hY hlb);(have HLV2:=hY hlv2);(have HGB:=hY hgb);clear hlb hlv2 hgb)
  | (go_at_call 38;refine(sinkNew_any _).mono ?_;rintro e w4 ⟨bk,mp,rfl,hbk,R4,n4,rfl⟩;(have HBK:=hY hbk);clear hbk)
  | (go_at_call 39;refine(logAll_any (⟨grew_heap gw HLB.o.blk,HLB.o.own.grew gw⟩:LogAt w0.heap.size _ y x av ([]++[s])) (by simp)).mono ?_;rintro e w5 ⟨v5,rfl,ho5,R5,n5,rfl⟩;obtain⟨b5,c5,rfl⟩:=own_some' ho5 (by simp);(have HO5:=hY ho5);clear ho5))
 have hzc:(((wB.more R4 n4).alloc (.cells #[.pointer (some ⟨bk,0,none⟩),.pointer (some ⟨y,0,none⟩),.slice none 0 0,.slice none 0 0,.pointer none,.bool false,.int .i64 0,.int .i64 0] 83)).more R5 n5).heap[wB.heap.size+R4.size]? = some (.cells #[.pointer (some ⟨bk,0,none⟩),.pointer (some ⟨y,0,none⟩),.slice none 0 0,.slice none 0 0,.pointer none,.bool false,.int .i64 0,.int .i64 0] 83):=grew_heap (gw:Grew ((wB.more R4 n4).alloc (.cells #[.pointer (some ⟨bk,0,none⟩),.pointer (some ⟨y,0,none⟩),.slice none 0 0,.slice none 0 0,.pointer none,.bool false,.int .i64 0,.int .i64 0] 83)) _) (heap_new_at _ _ _ (by simp[World.more_size]));have hbk:(((wB.more R4 n4).alloc (.cells #[.pointer (some ⟨bk,0,none⟩),.pointer (some ⟨y,0,none⟩),.slice none 0 0,.slice none 0 0,.pointer none,.bool false,.int .i64 0,.int .i64 0] 83)).more R5 n5).heap[bk]? = _:=grew_heap (gw:Grew (wB.more R4 n4) _) HBK.o;have hgl:Grew w0 (((wB.more R4 n4).alloc (.cells #[.pointer (some ⟨bk,0,none⟩),.pointer (some ⟨y,0,none⟩),.slice none 0 0,.slice none 0 0,.pointer none,.bool false,.int .i64 0,.int .i64 0] 83)).more R5 n5):=HGB.o.trans gw;have hz0:w0.heap.size≤wB.heap.size+R4.size:=Nat.le_trans HGB.o.below.size (Nat.le_add_right _ _)
 have hs5:(((wB.more R4 n4).alloc (.cells #[.pointer (some ⟨bk,0,none⟩),.pointer (some ⟨y,0,none⟩),.slice none 0 0,.slice none 0 0,.pointer none,.bool false,.int .i64 0,.int .i64 0] 83)).more R5 n5).cell? ⟨b5,0,none⟩=some (.string ⟨s.toArray⟩):=by
  obtain⟨a6,c6,e6,-,hx⟩:=OwnAt.rows HO5.o encS_len;cases e6;obtain⟨b6,off,e7,hx⟩:=hx (by simp);cases e7;exact hx 0 s rfl 0 _ rfl
 obtain⟨z,hz⟩:∃z,wB.heap.size+R4.size=z:=⟨_,rfl⟩;rw[hz] at hzc hz0 ⊢;generalize ((wB.more R4 n4).alloc (.cells #[.pointer (some ⟨bk,0,none⟩),.pointer (some ⟨y,0,none⟩),.slice none 0 0,.slice none 0 0,.pointer none,.bool false,.int .i64 0,.int .i64 0] 83)).more R5 n5=WL at *;have HZC:=hY hzc;have HBL:=hY hbk;have HGL:=hY hgl;have HZ0:=hY hz0;have HS5:=hY hs5;clear hzc hbk hgl hz0 hs5 hz
 go_loopg [55] 1 (fun gg s55 wr=>(s55 = .int .i64 0∧gg=1∧Hid (Grew WL wr))∨(s55 = .int .i64 1∧Hid (CoAt w0 wr z bk y [] (firstM g) [] (.pointer none) false 0 0)))
 case atStart=>exact .inl ⟨rfl,rfl,hY (Grew.refl _)⟩
 case round =>
  rename World=>wa;rcases hrel with ⟨rfl,rfl,HG⟩|⟨rfl,HCO⟩
  ·have h5:=cell_grew HS5.o HG.o;have hb5:=Pre.ofCell h5
   go_wp2_with (first
    | (go_at_call 40;refine(HGM.o _).mono ?_;rintro e w6 ⟨⟨ep2,pl2,ao2,no2,co2,ag2,ng2,cg2,ae2,ne2,ce2,ax2,nx2,cx2,ap2,np2,cp2⟩,rfl,hm,R6,n6,rfl⟩;obtain rfl:ep2=0:=hm.epoch.symm;obtain rfl:pl2=0:=hm.plans.symm;(obtain rfl:ne2=0:=by obtain⟨_,_,e⟩:=(OwnAt.rows hm.e encEn_len).len;exact(Value.slice.inj e).2.1);(obtain rfl:nx2=0:=by obtain⟨_,_,e⟩:=(OwnAt.rows hm.x encLn_len).len;exact(Value.slice.inj e).2.1);(obtain rfl:np2=0:=by obtain⟨_,_,e,-⟩:=hm.is.p.openC;exact(Value.slice.inj e).2.1);(have HM:=hY hm.low);clear hm)
    | (go_at_call 41;refine(coFollows_nil (c:=⟨0,0,ao2,no2,co2,ag2,ng2,cg2,ae2,0,ce2,ax2,0,cx2,ap2,0,cp2⟩) (grew_heap (HG.o.trans gw) HZC.o) rfl rfl rfl rfl rfl rfl).mono ?_;rintro e w7 ⟨rfl,R7,n7,rfl⟩)
    | (go_at_call 42;refine(coHolds_first (w0:=w0) (c:=⟨0,0,ao2,no2,co2,ag2,ng2,cg2,ae2,0,ce2,ax2,0,cx2,ap2,0,cp2⟩) (grew_heap (HG.o.trans gw) HZC.o) (grew_heap (HG.o.trans gw) HBL.o) (HM.o.grew gw) rfl HOK.o (HGL.o.trans (HG.o.trans gw)) HZ0.o).mono ?_;rintro e w8 ⟨rfl,hco,-⟩;(have HCO:=hY hco);clear hco))
   go_roundg 0
   case measure=>omega
   case rel=>exact .inr ⟨by go_num,hY (HCO.o.grew gw)⟩
  ·go_wp2;go_ret2;exact⟨z,bk,y,rfl,HCO.o.grew gw⟩
end Go.Proofs.YtipgfjihdglocaaGreat
namespace Gr
def SrcP(l:List Nd)(k:Int): Prop:=∀n∈l,n.kind=0→n.par=k
theorem SrcP.perm{l l':List Nd}{k:Int}(h:SrcP l k)(hp:l'.Perm l): SrcP l' k:=fun n hn=>h n (hp.mem_iff.1 hn)
theorem finE_zero{chk:List Nd→Int}{l:List Nd}(h:(finE chk l).1=0): (finE chk l).2=l:=by
 unfold finE at h ⊢;by_cases e:chk l≠0
 ·rw[if_pos e] at h;exact absurd h e
 ·rw[if_neg e]
theorem updN_src{l:List Nd}{x k:Int}{f:Nd→Nd}(h:SrcP l k)(hf:∀m∈l,m.id=x→(f m).kind=m.kind∧((f m).kind=0→(f m).par=m.par)): SrcP (updN l x f) k:=by
 intro n hn h0;unfold updN at hn;obtain⟨m,hm,rfl⟩:=List.mem_map.1 hn;by_cases e:m.id=x
 ·rw[if_pos e] at h0 ⊢;obtain⟨h1,h2⟩:=hf m hm e;rw[h2 h0];exact h m hm (h1.symm.trans h0)
 ·rw[if_neg e] at h0 ⊢;exact h m hm h0
theorem stepE_src{chk:List Nd→Int}(hc:Chk chk){l:List Nd}{s:Stp}{k:Int}(h:SrcP l k)(he:(stepE chk l s).1=0): SrcP (stepE chk l s).2 k:=by
 unfold stepE at he ⊢;by_cases h0:chk l≠0
 ·rw[if_pos h0] at he;cases he
 rw[if_neg h0] at he ⊢;by_cases h1:s.kind<1∨5<s.kind
 ·rw[if_pos h1] at he;cases he
 rw[if_neg h1] at he ⊢;have hz:chk l=0:=Classical.byContradiction h0;revert he
 cases hn:nodeOf l s.nd.id with
 |none =>
  intro he;dsimp only at he ⊢;by_cases h2:s.kind=2
  ·rw[if_pos h2] at he ⊢;by_cases h3:s.nd.kind=0
   ·rw[if_pos h3] at he;cases he
   rw[if_neg h3] at he ⊢;rw[finE_zero he];intro n hm q;rcases List.mem_append.1 hm with hm|hm
   ·exact h n hm q
   ·rw[List.mem_singleton] at hm;subst hm;exact absurd q h3
  ·rw[if_neg h2] at he;cases he
 |some n =>
  intro he;dsimp only at he ⊢
  have hall:∀m∈l,m.id=s.nd.id→m=n:=fun m hm e=>by
   have h5:=bind_find (hc.un hz) hm;rw[e] at h5;unfold nodeOf at hn;rw[hn] at h5;cases h5;rfl
  by_cases k2:s.kind=2
  ·rw[if_pos k2] at he;cases he
  rw[if_neg k2] at he ⊢;by_cases k1:s.kind=1
  ·rw[if_pos k1] at he ⊢;by_cases q1:n.kind≠1
   ·rw[if_pos q1] at he;cases he
   rw[if_neg q1] at he ⊢;by_cases q2:Vm.safe s.nd.prog=true
   ·rw[if_pos q2] at he ⊢;rw[finE_zero he];exact updN_src h fun m _ _=>⟨rfl,fun _=>rfl⟩
   ·rw[if_neg q2] at he;cases he
  rw[if_neg k1] at he ⊢;by_cases k3:s.kind=3
  ·rw[if_pos k3] at he ⊢;by_cases q1:n.kind=0∨(l.any fun m=>decide (s.nd.id∈m.frm))=true
   ·rw[if_pos q1] at he;cases he
   rw[if_neg q1] at he ⊢;rw[finE_zero he];exact fun m hm=>h m (List.mem_filter.1 hm).1
  rw[if_neg k3] at he ⊢;by_cases k4:s.kind=4
  ·rw[if_pos k4] at he ⊢;by_cases q1:n.kind=0
   ·rw[if_pos q1] at he;cases he
   rw[if_neg q1] at he ⊢;rw[finE_zero he];exact updN_src h fun m hm e=>⟨rfl,fun q=>absurd (show n.kind=0 by rw[←hall m hm e];exact q) q1⟩
  rw[if_neg k4] at he ⊢;by_cases q1:n.kind≠2
  ·rw[if_pos q1] at he;cases he
  rw[if_neg q1] at he ⊢;rw[finE_zero he];exact updN_src h fun m _ _=>⟨rfl,fun _=>rfl⟩
theorem stepsE_src{chk:List Nd→Int}(hc:Chk chk){k:Int}: ∀(p:List Stp) {l:List Nd} (i:Nat),SrcP l k→(stepsE chk l p i).1=0→SrcP (stepsE chk l p i).2.2 k
 | [],l,i,h,_=>h
 |s::p,l,i,h,h1=>by
  unfold stepsE at h1 ⊢;by_cases he:(stepE chk l s).1≠0
  ·rw[if_pos he] at h1;exact absurd h1 he
  ·rw[if_neg he] at h1 ⊢;exact stepsE_src hc p (i+1) (stepE_src hc h (Classical.byContradiction he)) h1
theorem applyE_src{chk:List Nd→Int}(hc:Chk chk){k:Int}{p:List Stp}{l:List Nd}(h:SrcP l k)(h1:(applyE chk l p).1=0): SrcP (applyE chk l p).2.2 k:=by
 unfold applyE at h1 ⊢;by_cases h0:chk l≠0
 ·rw[if_pos h0] at h1;cases h1
 rw[if_neg h0] at h1 ⊢;by_cases h2:p.length<1∨6<p.length
 ·rw[if_pos h2] at h1;cases h1
 rw[if_neg h2] at h1 ⊢;exact stepsE_src hc p 0 h h1
end Gr
namespace Go.Proofs.YtipgfjihdglocaaGreat
open Go.RowKit Ga
def akN:AkP:=⟨[],[],0⟩
theorem outG_none(g:List Gr.Nd): ∀(T:List Who),outG g (fun _=>akN) T=[]
 | []=>rfl
 |t::T=>by
  show(if kindOf g t.1=2 then (akN).lines else [])++outG g _ T=[];rw[outG_none g T];split<;>rfl
theorem entG_none(g:List Gr.Nd): ∀(T:List Who),entG g (fun _=>akN) T=[]
 | []=>rfl
 |t::T=>by
  show(if kindOf g t.1=0∨kindOf g t.1=2 then [] else (akN).ents)++entG g _ T=[];rw[entG_none g T];split<;>rfl
theorem offsG_app(g:List Gr.Nd)(f:Who→AkP)(a b:List Who): offsG g f (a++b)=offsG g f a++offsG g f b:=List.flatMap_append
theorem offsG_no{g:List Gr.Nd}{f:Who→AkP}: ∀{T:List Who},(∀t∈T,kindOf g t.1≠0)→offsG g f T=[]
 | [],_=>rfl
 |t::T,h=>by
  show(if kindOf g t.1=0 then [(f t).off] else [])++offsG g f T=[];rw[if_neg (h t (List.mem_cons_self ..)),offsG_no fun x hx=>h x (List.mem_cons_of_mem _ hx)];rfl
theorem offsG_all{g:List Gr.Nd}: ∀{T:List Who},(∀t∈T,kindOf g t.1=0)→offsG g (fun _=>akN) T=List.replicate T.length 0
 | [],_=>rfl
 |t::T,h=>by
  show(if kindOf g t.1=0 then [(akN).off] else [])++offsG g _ T=_;rw[if_pos (h t (List.mem_cons_self ..)),offsG_all fun x hx=>h x (List.mem_cons_of_mem _ hx)];rfl
theorem kindOf_mem{g:List Gr.Nd}(hr:Gr.RightR g){n:Gr.Nd}(hn:n∈g): kindOf g n.id=n.kind:=by
 unfold kindOf Gr.nodeOf;rw[Gr.bind_find hr.ids hn];rfl
theorem offsG_zero{g:List Gr.Nd}(hr:Gr.RightR g){k:Int}(hs:Gr.SrcP g k)(hh:∃n l,g=n::l∧n.kind=0∧∀m∈l,m.kind≠0): offsG g (fun _=>akN) (tasksOf g)=List.replicate k.toNat 0:=by
 obtain⟨n,l,e,hn,hl⟩:=hh;have hm:n∈g:=by rw[e];exact List.mem_cons_self ..
 have hnk:=kindOf_mem hr hm;have hle:∀m∈l,m∈g:=fun m q=>by rw[e];exact List.mem_cons_of_mem _ q
 have hpar:=hs n hm hn
 have ht:tasksOf g=((List.range n.par.toNat).map fun(k:Nat)=>((n.id,(k:Int)):Who))++tasksOf l:=by
  rw[e];rfl
 rw[ht,offsG_app,offsG_all,offsG_no,List.append_nil,List.length_map,List.length_range,hpar]
 ·intro t q;unfold tasksOf at q;obtain⟨m,hm2,q⟩:=List.mem_flatMap.1 q;obtain⟨j,-,rfl⟩:=List.mem_map.1 q;rw[kindOf_mem hr (hle m hm2)];exact hl m hm2
 ·intro t q;obtain⟨j,-,rfl⟩:=List.mem_map.1 q;exact hnk.trans hn
theorem source_first{g:List Gr.Nd}(hr:Gr.RightR g)(hs:g.Pairwise fun a b=>a.id<b.id): ∃n l,g=n::l∧n.kind=0∧∀m∈l,m.kind≠0:=by
 obtain⟨n,h1⟩:=source_some hr;have h2:=h1;rw[Gr.head_source hr hs] at h2;have hid:=(Gr.nodeOf_some h1).2
 have src:∀m∈g,m.id=0↔m.kind=0:=fun m hm=>by
  obtain⟨i,hi,e⟩:=List.mem_iff_getElem.1 hm;exact(hr.ok i m (by rw[List.getElem?_eq_getElem hi,e])).src
 cases g with
 | nil=>cases h2
 |cons a l =>
  cases h2;refine⟨n,l,rfl,(src n (List.mem_cons_self ..)).1 hid,fun m hm q=>?_⟩;have h3:=(src m (List.mem_cons_of_mem _ hm)).2 q;have h4:=(List.pairwise_cons.1 hs).1 m hm;omega
def nextM(m:Gr.Mf)(ep:Int)(p:List Gr.Stp)(l9:List Gr.Nd): Gr.Mf:=⟨ep,m.plans+(if p=[] then 0 else 1),List.replicate m.offs.length 0,Gr.normG l9,[],[],p⟩
theorem next_right{m:Gr.Mf}{ep:Int}{p:List Gr.Stp}{l9:List Gr.Nd}(h:Gr.RightM fitsP m)(he:0≤ep∧ep≤2000000000)(hp:m.plans≤2000000000)(hl:Gr.RightR l9)(hs:Gr.SrcP l9 m.offs.length)(hq:p=[]∨Gr.OkPl fitsP p∧∀x∈p,Gr.cleanS x=x): Gr.RightM fitsP (nextM m ep p l9):=by
 have hn:=right_norm hl;have hso:=Gr.normG_sorted l9;have hno:∀{α:Type} {p:α→Prop},∀x∈([]:List α),p x:=fun x hx=>by cases hx
 have h0:=h.pl;refine { ep:=⟨he.1,?_⟩,pl:=?_,gr:=hn,so:=hso,of:=?_,o4:=?_,en:=hno,ei:=List.Pairwise.nil,ek:=hno,ol:=Nat.zero_le _,ou:=hno,pn:=hq }
 ·have:=he.2;show ep≤2147483647;omega
 ·show 0≤m.plans+(if p=[] then 0 else 1)∧m.plans+(if p=[] then 0 else 1)≤2147483647;split<;>omega
 ·obtain⟨n,l,e,hk,-⟩:=source_first hn hso;refine⟨n,?_,?_⟩
  ·show(Gr.normG l9).head? = some n;rw[e];rfl
  ·show((List.replicate m.offs.length (0:Int)).length:Int)=n.par;rw[List.length_replicate];have hm:n∈Gr.normG l9:=by rw[e];exact List.mem_cons_self ..
   exact(hs n ((Gr.normG_mem hl.ids hl.r7 n).1 hm) hk).symm
 ·intro x hx;have:=List.eq_of_mem_replicate hx;subst this;decide
theorem src_of{m:Gr.Mf}(h:Gr.RightM fitsP m): Gr.SrcP m.graph m.offs.length:=by
 obtain⟨n,l,e,hk,hl⟩:=source_first h.gr h.so;obtain⟨n',h1,h2⟩:=h.of;rw[e] at h1;cases h1;intro x hx h0;rw[e] at hx;rcases List.mem_cons.1 hx with rfl|hx
 ·exact h2.symm
 ·exact absurd h0 (hl x hx)
theorem offs_next{m:Gr.Mf}(h:Gr.RightM fitsP m): offsG m.graph (fun _=>akN) (tasksOf m.graph)=List.replicate m.offs.length 0:=by
 have:=offsG_zero h.gr (src_of h) (source_first h.gr h.so);simpa using this
theorem nextM_len{m:Gr.Mf}{ep:Int}{p:List Gr.Stp}{l9:List Gr.Nd}(h:Gr.RightM fitsP (nextM m ep p l9))(h8:∀n∈l9,n.route.length=8)(hl:Gr.RightR l9): (Gr.putM putI (nextM m ep p l9)).length≤20000:=by
 have h8':∀n∈(nextM m ep p l9).graph,n.route.length=8:=fun n hn=>h8 n ((Gr.normG_mem hl.ids hl.r7 n).1 hn)
 obtain⟨ho1,ho3⟩:=offs_len h h8';have h1:(Gr.putG putI (nextM m ep p l9).graph).length≤3000:=putG_len h.gr h8';rw[putM_eq];unfold Gr.putG at h1;rw[graph_self h] at h1;have e1:(nextM m ep p l9).ents=[]:=rfl;have e2:(nextM m ep p l9).out=[]:=rfl;have e3:(nextM m ep p l9).plan=p:=rfl
 have h3:(planBy p).length≤10000:=by
  rcases h.pn with q|q
  ·have q:p=[]:=q;rw[q,planBy_nil];simp
  ·rw[planBy_ne (show p≠[] by intro e;have:=q.1.1;rw[show(nextM m ep p l9).plan=p from rfl,e] at this;cases this)];exact putPl_len q.1
 rw[e1,e2,e3];simp only[List.length_append,Oc.bes_len,Oc.be_len,List.length_cons,List.length_nil,List.flatMap_nil] at h1 ⊢;omega
end Go.Proofs.YtipgfjihdglocaaGreat
namespace Go.Proofs.YtipgfjihdglocaaGreat
open Go.RowKit Ga
def CL(T:List TypeId)(W W':World): Prop:=∀(q:Nat) (c:Array Value) (t:TypeId) (f:Nat×Nat),W.heap[q]? = some (.cells c t f)→t∉T→W'.heap[q]? = some (.cells c t f)
section
variable {T:List TypeId} {W W':World}
theorem Leaves.cl(h:Leaves T W W'): CL T W W':=fun _ _ _ _ hq ht=>h.at hq ht
theorem CL.trans{a b c:World}(h:CL T a b)(k:CL T b c): CL T a c:=fun q x t f hq ht=>k q x t f (h q x t f hq ht) ht
theorem CL.grew(g:Grew W W'): CL T W W':=(Leaves.grew g).cl
theorem CL.mono{T':List TypeId}(h:CL T W W')(hs:∀t∈T,t∈T'): CL T' W W':=fun q c t f hq ht=>h q c t f hq fun e=>ht (hs t e)
theorem Keep.cl{b:Nat}(h:Keep b W W')(hb:∀c t f,W.heap[b]? ≠ some (.cells c t f)): CL T W W':=fun q c t f hq _=>(h.2 q (heap_lt hq) fun e=>hb c t f (e▸hq)).trans hq
theorem MapAt.nocells{κ ν:Type}{S:MSpec κ ν}{b n:Nat}{m:List (κ×ν)}(h:MapAt S W b n m): ∀c t f,W.heap[b]? ≠ some (.cells c t f):=by
 obtain⟨D,⟨es,c,h1,-⟩,-⟩:=h;intro c' t f e;rw[h1] at e;cases e
theorem CL.type(h:CL T W W'){t:TypeId}(ht:t∉T): Same t W W':=fun q c hq=>(h q c t _ hq ht).trans hq.symm
theorem CL.own{α:Type}{base:Nat}{e:TypeId}{k:Nat}{enc:α→List Value}{v:Value}{l:List α}(h:CL T W W')(ho:OwnAt base e k enc W v l)(ht:e∉T): OwnAt base e k enc W' v l:=OwnAt.sameT ho (h.type ht)
theorem CL.nodes{base:Nat}{lc:List NdC}{l:List Gr.Nd}(h:CL T W W')(ho:NodesIn base W lc l)(h1:3∉T)(h2:187∉T): NodesIn base W' lc l:=ho.sameT (h.type h1) (h.type h2)
theorem CL.steps{base:Nat}{lc:List StC}{l:List Gr.Stp}(h:CL T W W')(ho:StepsIn base W lc l)(h1:3∉T)(h2:187∉T): StepsIn base W' lc l:=ho.sameT (h.type h1) (h.type h2)
theorem CL.mf{base:Nat}{c:MfC}{m:Gr.Mf}(g:CL T W W')(h:MfOwn base W c m)(hT:NoData T): MfOwn base W' c m:=by
 obtain⟨lc,h1,h2⟩:=h.g;obtain⟨lp,h3,h4⟩:=h.p;obtain⟨t1,t2,t3,t4,t5,t6⟩:=hT;exact⟨h.epoch,h.plans,g.own h.o t1,⟨lc,g.own h1 t3,g.nodes h2 t1 t2⟩,g.own h.e t5,g.own h.x t6,⟨lp,g.own h3 t4,g.steps h4 t1 t2⟩⟩
theorem CL.pl{base:Nat}{v:Value}{p:List Gr.Stp}(g:CL T W W')(h:PlOwn base W v p)(hT:NoData T): PlOwn base W' v p:=by
 obtain⟨lc,h1,h2⟩:=h;exact⟨lc,g.own h1 hT.2.2.2.1,g.steps h2 hT.1 hT.2.1⟩
theorem CL.hist{base:Nat}{hv:Value}{ms:List Gr.Mf}(g:CL T W W')(h:HistAt base W hv ms)(hT:NoData T)(hM:47∉T): HistAt base W' hv ms:=by
 obtain⟨cs,h1,h2⟩:=h;exact⟨cs,g.own h1 hM,Rel.mono (fun _ _ q=>g.mf q hT) h2⟩
theorem CL.queue{base:Nat}{qv:Value}{ps:List (List Gr.Stp)}(g:CL T W W')(h:QueueAt base W qv ps)(hT:NoData T)(hM:34∉T): QueueAt base W' qv ps:=by
 obtain⟨cs,h1,h2⟩:=h;exact⟨cs,g.own h1 hM,Rel.mono (fun _ _ q=>⟨g.pl q.1 hT,q.2⟩) h2⟩
end
theorem CoAt.cl{T:List TypeId}{w0 W W':World}{z bk lg:Nat}{ms:List Gr.Mf}{m:Gr.Mf}{ps:List (List Gr.Stp)}{uv:Value}{pl:Bool}{last ref:Int}(h:CoAt w0 W z bk lg ms m ps uv pl last ref)(g:CL T W W')(hT:NoData T)(h1:83∉T)(h2:47∉T)(h3:34∉T)(hg:Grew w0 W'): CoAt w0 W' z bk lg ms m ps uv pl last ref:=by
 obtain⟨hv,qv,e1,e2,e3⟩:=h.blk;exact⟨⟨hv,qv,g z _ _ _ e1 h1,g.hist e2 hT h2,g.queue e3 hT h3⟩,h.ok,h.n,h.z0,hg⟩
section
variable {w0 W:World} {z bk lg x b n:Nat} {ms:List Gr.Mf} {m:Gr.Mf} {ps:List (List Gr.Stp)} {pl:Bool} {last ref ep:Int} {g:List Gr.Nd} {mm:List (Who×AkC)}
theorem coAck_any(c:AkC)(h:CoAt w0 W z bk lg ms m ps (.pointer (some ⟨x,0,none⟩)) pl last ref)(hG:GatherAt W x b n g ep mm)(hb:w0.heap.size≤b)(hn:n≤1000)(hw:okWho (c.node,c.ix))(ha:addR g ep mm c=0):
  Calls Tryz.prog 17 #[.pointer (some ⟨z,0,none⟩),akv c] W fun e W'=>e = .returned (.int .i64 0)∧CoAt w0 W' z bk lg ms m ps (.pointer (some ⟨x,0,none⟩)) pl last ref∧GatherAt W' x b (n+1) g ep (((c.node,c.ix),c)::mm)∧Grew w0 W'∧Keep b W W':=by
 have H:=hY h;obtain⟨hv,qv,h1,-,-⟩:=h.blk;have c4:=cell_of (o:=4) h1;simp at c4;have hbz:Pre z W:=heap_lt h1;have HA:=hY fun W' (q:Grew W W')=>add_any' w0 W' x b n g ep mm c (hG.grew q) (h.g.trans q) hb hn hw
 have HNC:=hY hG.map.nocells;clear h h1 hG hb hn hw;obtain⟨nd,ix,ce,ae,ne,cae,ax,nx,cax,off⟩:=c;show Calls Tryz.prog _ #[_,.agg #[.int .i64 nd,.int .i64 ix,.int .i64 ce,.slice ae ne cae,.slice ax nx cax,.int .i64 off]] W _;go_enter Tryz.func17,Tryz.ntmps17
 go_wp2_with fail
 refine wp_region_seq 5 Tryz.mixed (by kernel_rfl) (by kernel_rfl) ?_
 iterate 5
  apply Seq.val
  focus
   rintro w1 u ⟨R1,n1,rfl⟩ hF;simp[moreFacts,Fact.more,Oper.deps,Region.binds,List.filter_cons,World.more_drew] at hF;simp[putFacts,Oper.deps,Region.binds,List.filter_cons,Region.dstOf,Fact.at,Act.put,World.more_drew];go_wp2;exact⟨gw,rfl,_,_,rfl,rfl,rfl⟩
 rintro u w1 ⟨R1,n1,rfl⟩ hF;clear hF;simp[putFacts,Region.dstOf,Fact.at,Act.put,List.range_succ,World.more_drew]
 go_wp2_with fail
 refine(HA.o _ gw).mono ?_;rintro e w4 ⟨rfl,-,h4⟩;obtain⟨h5,h6,h7⟩:=h4 ha;have HAA:=hY ha;rw[ha];have H5:=hY h5;have H6:=hY h6;have H7:Hid (Keep b W w4):=hY (Keep.trans (Keep.ofGrew gw) h7);clear h4 h5 h6 h7 ha
 go_wp2_with fail
 go_ret;exact⟨rfl,H.o.cl (T:=[]) (H7.o.cl HNC.o) (by simp[NoData]) (by simp) (by simp) (by simp) H6.o,H5.o,H6.o,H7.o⟩
theorem coReady_yes{uv:Value}{cs:Array Value}(hz:W.heap[z]? = some (.cells cs 83))(h4:cs[4]? = some (.pointer (some ⟨x,0,none⟩)))(hG:GatherAt W x b n g ep mm)(hn:n≤1000)(hm:mm.length=(tasksOf g).length):
  Calls Tryz.prog 27 #[.pointer (some ⟨z,0,none⟩)] W (Gives (.bool true) W):=by
 have c4:=(cell_of (o:=4) hz).trans h4;have HM:=hY (missing_any x b n g ep mm W hG hn);rw[hm,Int.sub_self] at HM;clear hz h4 hG hm hn;go_enter Tryz.func27,Tryz.ntmps27
 go_wp2_with (go_at_call 74;refine HM.o.mono ?_;rintro e w1 ⟨rfl,R1,n1,rfl⟩)
 go_ret;refine⟨rfl,?_⟩;exact gw
theorem coAbort_any(h:CoAt w0 W z bk lg ms m ps (.pointer (some ⟨x,0,none⟩)) pl last ref):
  Calls Tryz.prog 15 #[.pointer (some ⟨z,0,none⟩)] W fun e W'=>e = .returned (.bool true)∧CoAt w0 W' z bk lg ms m ps (.pointer none) false last ref∧Leaves [83] W W'∧W'.cell? ⟨z,2,none⟩=W.cell? ⟨z,2,none⟩∧W.heap.size≤W'.heap.size:=by
 have H:=hY h;obtain⟨hv,qv,h1,h2,h3⟩:=h.blk;have hb:Pre z W:=heap_lt h1;have c4:=cell_of (o:=4) h1;have c5:=cell_of (o:=5) h1;have f4:=frozen_of (o:=4) h1;have f5:=frozen_of (o:=5) h1;simp at c4 c5;have HB:=hY h1;have HB2:=hY h2;have HB3:=hY h3;clear h h1 h2 h3;go_enter Tryz.func15,Tryz.ntmps15
 go_wp2_with fail
 go_ret;have e1:=set_blk (o:=4) (v:=.pointer none) HB.o rfl;have e2:=set_blk (o:=5) (v:=.bool false) e1 rfl;have hl:=((Leaves.refl [83] W).set (o:=4) (v:=.pointer none) HB.o (by simp)).set (o:=5) (v:=.bool false) e1 (by simp);have hg:=(H.o.g.set (o:=4) H.o.z0 (.pointer none)).set (o:=5) H.o.z0 (.bool false);have hT:NoData [83]:=by simp[NoData]
 have hsz:W.heap.size≤((W.setCell ⟨z,4,none⟩ (.pointer none)).setCell ⟨z,5,none⟩ (.bool false)).heap.size:=by simp[World.size_setCell]
 clear c4 c5 f4 f5 e1 hb;generalize (W.setCell ⟨z,4,none⟩ (.pointer none)).setCell ⟨z,5,none⟩ (.bool false)=WS at *;exact⟨rfl,⟨⟨_,_,grew_heap gw e2,(HB2.o.leaves hl hT (by simp)).grew gw,(HB3.o.leaves hl hT (by simp)).grew gw⟩,H.o.ok,H.o.n,H.o.z0,hg.trans gw⟩,hl.trans (Leaves.grew gw),(cell_grew (cell_of (o:=2) e2) gw).trans (cell_of (o:=2) HB.o).symm,Nat.le_trans hsz (Grew.below gw).size⟩
end
end Go.Proofs.YtipgfjihdglocaaGreat
namespace Gr
section
variable {chk:List Nd→Int}
theorem Waits.head{g:List Nd}{p:List Stp}{q:List (List Stp)}(h:Waits chk g (p::q)): goes chk g p=true∧Waits chk (nextG chk g p) q:=by
 unfold Waits keepQ at h;by_cases e:goes chk g p=true
 ·rw[if_pos e] at h;exact⟨e,(List.cons.inj h).2⟩
 ·rw[if_neg e] at h;have h1:=keepQ_len (chk:=chk) q g;rw[h,List.length_cons] at h1;omega
theorem Waits.perm(hc:Chk chk){g g':List Nd}(hp:g.Perm g'){q:List (List Stp)}(h:Waits chk g q): Waits chk g' q:=by
 unfold Waits at h ⊢;rw[←keepQ_perm hc q hp];exact h
end
end Gr
namespace Go.Proofs.YtipgfjihdglocaaGreat
open Go.RowKit Ga
theorem planE_ne{g:List Gr.Nd}{p:List Gr.Stp}(hp:p≠[]): planE g p=Gr.applyE checkR g p:=by
 unfold planE;rw[if_neg hp]
theorem plan_next{m:Gr.Mf}{p:List Gr.Stp}{q:List (List Gr.Stp)}(hm:Gr.RightM fitsP m)(h:Gr.Waits checkR m.graph (p::q))(hp:p≠[]):
  (planE m.graph p).1=0∧Gr.RightR (planE m.graph p).2.2∧Gr.Waits checkR (Gr.normG (planE m.graph p).2.2) q∧(Gr.aheadG checkR (Gr.normG (planE m.graph p).2.2) q).Perm (Gr.aheadG checkR m.graph (p::q))∧Gr.SrcP (planE m.graph p).2.2 m.offs.length:=by
 obtain⟨h1,h2⟩:=h.head
 have h3:(planE m.graph p).1=0:=by
  rw[planE_ne hp];exact of_decide_eq_true h1
 have h4:Gr.nextG checkR m.graph p=(planE m.graph p).2.2:=by
  unfold Gr.nextG;rw[if_pos h1,planE_ne hp]
 have h5:Gr.RightR (planE m.graph p).2.2:=planE_ok hm.gr h3;have h6:=Gr.normG_perm h5.ids h5.r7;rw[h4] at h2;refine⟨h3,h5,h2.perm chkR h6.symm,?_,?_⟩
 ·show(Gr.aheadG checkR _ q).Perm (Gr.aheadG checkR (Gr.nextG checkR m.graph p) q);rw[h4];exact Gr.aheadG_perm chkR q h6
 ·have h7:=h3;rw[planE_ne hp] at h7 ⊢;exact Gr.applyE_src chkR (src_of hm) h7
theorem plan_none(m:Gr.Mf)(hm:Gr.RightM fitsP m): (planE m.graph []).1=0∧(planE m.graph []).2.2=m.graph∧Gr.normG m.graph=m.graph:=⟨rfl,rfl,graph_self hm⟩
theorem small_right{l:List Gr.Nd}(h:Gr.RightR l): Small l:=by
 intro n hn;obtain⟨i,hi,e⟩:=List.mem_iff_getElem.1 hn;have ho:=h.ok i n (by rw[List.getElem?_eq_getElem hi,e]);refine⟨Nat.le_trans ho.fr3 (by decide),?_⟩;by_cases hk:n.kind=1
 ·have h9:=(Co.fits_parts (safe_fits (ho.p1 hk):Co.fitsI n.prog=true)).1;omega
 ·rw[ho.p0 hk];decide
def R8(l:List Gr.Nd): Prop:=∀n∈l,n.route.length=8
theorem updN_R8{l:List Gr.Nd}{x:Int}{f:Gr.Nd→Gr.Nd}(h:R8 l)(hf:∀m∈l,(f m).route.length=8): R8 (Gr.updN l x f):=by
 intro n hn;unfold Gr.updN at hn;obtain⟨m,hm,rfl⟩:=List.mem_map.1 hn;split
 ·exact hf m hm
 ·exact h m hm
theorem stepE_R8{chk:List Gr.Nd→Int}{l:List Gr.Nd}{s:Gr.Stp}(h:R8 l)(hs:s.nd.route.length=8)(he:(Gr.stepE chk l s).1=0): R8 (Gr.stepE chk l s).2:=by
 unfold Gr.stepE at he ⊢;by_cases h0:chk l≠0
 ·rw[if_pos h0] at he;cases he
 rw[if_neg h0] at he ⊢;by_cases h1:s.kind<1∨5<s.kind
 ·rw[if_pos h1] at he;cases he
 rw[if_neg h1] at he ⊢;have hz:chk l=0:=Classical.byContradiction h0;revert he
 cases hn:Gr.nodeOf l s.nd.id with
 |none =>
  intro he;dsimp only at he ⊢;by_cases h2:s.kind=2
  ·rw[if_pos h2] at he ⊢;by_cases h3:s.nd.kind=0
   ·rw[if_pos h3] at he;cases he
   rw[if_neg h3] at he ⊢;rw[Gr.finE_zero he];intro n hm;rcases List.mem_append.1 hm with hm|hm
   ·exact h n hm
   ·rw[List.mem_singleton] at hm;subst hm;exact hs
  ·rw[if_neg h2] at he;cases he
 |some n =>
  intro he;dsimp only at he ⊢;by_cases k2:s.kind=2
  ·rw[if_pos k2] at he;cases he
  rw[if_neg k2] at he ⊢;by_cases k1:s.kind=1
  ·rw[if_pos k1] at he ⊢;by_cases q1:n.kind≠1
   ·rw[if_pos q1] at he;cases he
   rw[if_neg q1] at he ⊢;by_cases q2:Vm.safe s.nd.prog=true
   ·rw[if_pos q2] at he ⊢;rw[Gr.finE_zero he];exact updN_R8 h fun m hm=>h m hm
   ·rw[if_neg q2] at he;cases he
  rw[if_neg k1] at he ⊢;by_cases k3:s.kind=3
  ·rw[if_pos k3] at he ⊢;by_cases q1:n.kind=0∨(l.any fun m=>decide (s.nd.id∈m.frm))=true
   ·rw[if_pos q1] at he;cases he
   rw[if_neg q1] at he ⊢;rw[Gr.finE_zero he];exact fun m hm=>h m (List.mem_filter.1 hm).1
  rw[if_neg k3] at he ⊢;by_cases k4:s.kind=4
  ·rw[if_pos k4] at he ⊢;by_cases q1:n.kind=0
   ·rw[if_pos q1] at he;cases he
   rw[if_neg q1] at he ⊢;rw[Gr.finE_zero he];exact updN_R8 h fun m hm=>hs
  rw[if_neg k4] at he ⊢;by_cases q1:n.kind≠2
  ·rw[if_pos q1] at he;cases he
  rw[if_neg q1] at he ⊢;rw[Gr.finE_zero he];exact updN_R8 h fun m hm=>h m hm
theorem stepsE_R8{chk:List Gr.Nd→Int}: ∀(p:List Gr.Stp) {l:List Gr.Nd} (i:Nat),R8 l→(∀s∈p,s.nd.route.length=8)→(Gr.stepsE chk l p i).1=0→R8 (Gr.stepsE chk l p i).2.2
 | [],l,i,h,_,_=>h
 |s::p,l,i,h,hs,h1=>by
  unfold Gr.stepsE at h1 ⊢;by_cases he:(Gr.stepE chk l s).1≠0
  ·rw[if_pos he] at h1;exact absurd h1 he
  ·rw[if_neg he] at h1 ⊢;exact stepsE_R8 p (i+1) (stepE_R8 h (hs s (List.mem_cons_self ..)) (Classical.byContradiction he)) (fun x hx=>hs x (List.mem_cons_of_mem _ hx)) h1
theorem planE_R8{p:List Gr.Stp}{l:List Gr.Nd}(h:R8 l)(hs:∀s∈p,s.nd.route.length=8)(h1:(planE l p).1=0): R8 (planE l p).2.2:=by
 by_cases hp:p=[]
 ·subst hp;exact h
 rw[planE_ne hp] at h1 ⊢;unfold Gr.applyE at h1 ⊢;by_cases h0:checkR l≠0
 ·rw[if_pos h0] at h1;cases h1
 rw[if_neg h0] at h1 ⊢;by_cases h2:p.length<1∨6<p.length
 ·rw[if_pos h2] at h1;cases h1
 rw[if_neg h2] at h1 ⊢;exact stepsE_R8 p 0 h hs h1
def PlanOk(p:List Gr.Stp): Prop:=p=[]∨Gr.OkPl fitsP p∧∀x∈p,Gr.cleanS x=x
theorem PlanOk.step{p:List Gr.Stp}(h:PlanOk p): ∀s∈p,(s.nd.frm.length≤100∧s.nd.prog.length≤1000)∧s.nd.route.length=8:=by
 intro s hs;rcases h with rfl|⟨⟨-,-,h1⟩,h2⟩
 ·cases hs
 ·have h3:=(h1 s hs).2;rw[h2 s hs] at h3;have h4:=(Co.fits_parts (show Co.fitsI s.nd.prog=true from h3.p)).1;exact⟨⟨Nat.le_trans h3.m (by decide),by omega⟩,h3.ol⟩
theorem PlanOk.len{p:List Gr.Stp}(h:PlanOk p): p.length≤6:=by
 rcases h with rfl|⟨⟨-,h1,-⟩,-⟩
 ·exact Nat.zero_le _
 ·exact h1
theorem PlanOk.clean{p:List Gr.Stp}(h:PlanOk p): p.map Gr.cleanS=p:=by
 rcases h with rfl|⟨-,h2⟩
 ·rfl
 ·calc p.map Gr.cleanS=p.map id:=List.map_congr_left fun x hx=>h2 x hx
   _=p:=List.map_id p
theorem next_okH{m:Gr.Mf}{ep:Int}{p:List Gr.Stp}(hm:OkH m)(he:0≤ep∧ep≤2000000000)(hp:m.plans≤2000000000)(hq:PlanOk p)(hz:(planE m.graph p).1=0)(hl:Gr.RightR (planE m.graph p).2.2)(hs:Gr.SrcP (planE m.graph p).2.2 m.offs.length): OkH (nextM m ep p (planE m.graph p).2.2)∧(Gr.putM putI (nextM m ep p (planE m.graph p).2.2)).length≤20000:=by
 have h8:∀n∈(planE m.graph p).2.2,n.route.length=8:=planE_R8 hm.h8 (fun s h=>(hq.step s h).2) hz;have hr:=next_right hm.r he hp hl hs hq;have hlen:=nextM_len hr h8 hl;exact⟨⟨hr,small_right (right_norm hl),fun s h=>(hq.step s h).1,Nat.zero_le _,fun n hn=>h8 n ((Gr.normG_mem hl.ids hl.r7 n).1 hn),by omega⟩,hlen⟩
end Go.Proofs.YtipgfjihdglocaaGreat
namespace Go.Proofs.YtipgfjihdglocaaGreat
open Go.RowKit Ga
def ackZ(ep:Int)(t:Who): AkC:=⟨t.1,t.2,ep,none,0,0,none,0,0,0⟩
def cameZ(ep:Int)(ts:List Who): List (Who×AkC):=(ts.map fun t=>(t,ackZ ep t)).reverse
theorem cameZ_snoc(ep:Int)(ts:List Who)(t:Who): cameZ ep (ts++[t])=(t,ackZ ep t)::cameZ ep ts:=by
 unfold cameZ;rw[List.map_append,List.reverse_append];rfl
theorem cameZ_len(ep:Int)(ts:List Who): (cameZ ep ts).length=ts.length:=by
 unfold cameZ;rw[List.length_reverse,List.length_map]
theorem cameZ_mem{ep:Int}{ts:List Who}{x:Who×AkC}(h:x∈cameZ ep ts): x.1∈ts∧x.2=ackZ ep x.1:=by
 unfold cameZ at h;rw[List.mem_reverse] at h;obtain⟨t,ht,rfl⟩:=List.mem_map.1 h;exact⟨ht,rfl⟩
theorem cameZ_no{ep:Int}{ts:List Who}{t:Who}(h:t∉ts): mfind (cameZ ep ts) t=none:=mfind_no fun x hx e=>h (e▸(cameZ_mem hx).1)
theorem cameZ_find{ep:Int}{ts:List Who}{t:Who}(h:t∈ts): mfind (cameZ ep ts) t=some (ackZ ep t):=by
 rcases mfind_cases (cameZ ep ts) t with ⟨v,q1,q2⟩|⟨q1,q2⟩
 ·rw[q1];exact congrArg some (cameZ_mem q2).2
 ·refine absurd rfl (q2 (t,ackZ ep t) ?_);unfold cameZ;rw[List.mem_reverse];exact List.mem_map.2 ⟨t,h,rfl⟩
theorem allZ(W:World)(g:List Gr.Nd)(ep:Int): AllCame W g (cameZ ep (tasksOf g)) (fun _=>akN):=fun t ht=>⟨_,cameZ_find ht,rfl,⟨0,OwnAt.nil _⟩,⟨0,OwnAt.nil _⟩,Nat.zero_le _,Nat.zero_le _⟩
theorem addZ{g:List Gr.Nd}{ep:Int}{ts:List Who}{n:Gr.Nd}{i:Nat}(hr:Gr.RightR g)(hn:n∈g)(hi:(i:Int)<n.par)(ht:((n.id,(i:Int)):Who)∉ts): addR g ep (cameZ ep ts) (ackZ ep (n.id,(i:Int)))=0:=by
 unfold addR;have h1:Gr.nodeOf g (ackZ ep (n.id,(i:Int))).node=some n:=Gr.bind_find hr.ids hn;rw[h1];simp only;rw[if_neg (show ¬((ackZ ep (n.id,(i:Int))).ix<0∨n.par≤(ackZ ep (n.id,(i:Int))).ix) from by show ¬((i:Int)<0∨n.par≤(i:Int));omega),if_neg (show ¬(ackZ ep (n.id,(i:Int))).ep≠ep from fun h=>h rfl),show mfind (cameZ ep ts) ((ackZ ep (n.id,(i:Int))).node,(ackZ ep (n.id,(i:Int))).ix)=none from cameZ_no ht];rfl
def tasksTo(g:List Gr.Nd)(k i:Nat): List Who:=tasksOf (g.take k)++match g[k]? with
 | some n=>(List.range i).map fun(j:Nat)=>((n.id,(j:Int)):Who)
 | none=>[]
theorem tasksTo_zero(g:List Gr.Nd)(k:Nat): tasksTo g k 0=tasksOf (g.take k):=by
 unfold tasksTo;cases g[k]? <;> simp
theorem tasksTo_step{g:List Gr.Nd}{k:Nat}(hk:k<g.length)(i:Nat): tasksTo g k (i+1)=tasksTo g k i++[(g[k].id,(i:Int))]:=by
 unfold tasksTo;rw[List.getElem?_eq_getElem hk];simp only;rw[List.range_succ,List.map_append,←List.append_assoc];rfl
theorem tasksTo_full{g:List Gr.Nd}{k:Nat}(hk:k<g.length): tasksTo g k g[k].par.toNat=tasksOf (g.take (k+1)):=by
 unfold tasksTo;rw[List.getElem?_eq_getElem hk,List.take_succ_eq_append_getElem hk,tasksOf_snoc]
theorem tasksTo_new{g:List Gr.Nd}{k:Nat}(hk:k<g.length)(hs:g.Pairwise fun a b=>a.id<b.id)(i:Nat): ((g[k].id,(i:Int)):Who)∉tasksTo g k i:=by
 unfold tasksTo;rw[List.getElem?_eq_getElem hk];simp only;intro h;rcases List.mem_append.1 h with h|h
 ·unfold tasksOf at h;obtain⟨m,hm,h⟩:=List.mem_flatMap.1 h;obtain⟨j,-,e⟩:=List.mem_map.1 h;have e1:m.id=g[k].id:=congrArg Prod.fst e;obtain⟨q,hq,e2⟩:=List.mem_iff_getElem.1 hm;rw[List.length_take] at hq;rw[List.getElem_take] at e2;have h3:=List.pairwise_iff_getElem.1 hs q k (by omega) hk (by omega);rw[e2,e1] at h3;omega
 ·obtain⟨j,hj,e⟩:=List.mem_map.1 h;have e1:(j:Int)=(i:Int):=congrArg Prod.snd e;have:=List.mem_range.1 hj;omega
end Go.Proofs.YtipgfjihdglocaaGreat
