import Derived.Test.YtipgfjihdglocaaGreatCq45
import Derived.Test.YtipgfjihdglocaaGreatCq44
import Derived.Test.YtipgfjihdglocaaGreatCq36
import Derived.Test.YtipgfjihdglocaaGreatCq35
import Derived.Test.YtipgfjihdglocaaGreatCq10
set_option linter.unusedSimpArgs false
set_option linter.unusedVariables false
set_option maxRecDepth 100000
set_option maxHeartbeats 64000000
namespace Go.Proofs.YtipgfjihdglocaaGreat
open Go.RowKit Ga
theorem awake23_any(w:World): Calls Tryz.prog 5 #[] w (Gives (.bool true) w):=by
 have hln:((Gr.putM putI (firstM passL1)).length:Int)+8≤10000:=by
  have:=first_len pass1_right (by intro n hn;simp only[passL1,List.mem_cons,List.not_mem_nil,or_false] at hn;rcases hn with rfl|rfl<;>rfl)
  omega
 have HLN:=hY hln;clear hln;go_enter Tryz.func5,Tryz.ntmps5
 go_wp2_with (first
  | (go_at_call 9;refine(diskNew_any 10000 _ (by decide)).mono ?_;rintro e w1 ⟨x,rfl,hx,hd,R1,n1,rfl⟩;(have HX:=hY hx);(have HD:=hY hd);clear hx hd)
  | (go_at_call 21;refine(pass1O_any _).mono ?_;rintro e w2 ⟨v2,lc2,rfl,ho2,hi2,R2,n2,rfl⟩;(have HO2:=hY ho2);(have HI2:=hY hi2);clear ho2 hi2)
  | (go_at_call 8;refine(coOpen_new (w0:=w) (g:=passL1) (HD.o.grew gw) (fun W' hl _=>(hl.nodes HI2.o (by decide) (by decide)).at (hl.own HO2.o (by decide))) pass1_small pass1_right (by intro n hn;simp only[passL1,List.mem_cons,List.not_mem_nil,or_false] at hn;rcases hn with rfl|rfl<;>rfl) gw HX.o (by decide) HLN.o).mono ?_;rintro e w3 ⟨z,bk,lg,rfl,hc⟩;(have HC:=hY hc);clear hc)
  | (go_at_call 13;refine(coBegin_any HC.o (by decide)).mono ?_;rintro e w4 ⟨rfl,x4,b4,hc4,hg4,hx4,hb4,-⟩;(have HC4:=hY hc4);(have HG4:Hid (GatherAt _ x4 b4 0 passL1 1 []):=hY hg4.ga);(have HB4:=hY hb4);clear hc4 hg4 hx4 hb4))
 obtain⟨hv,qv,b1,-,-⟩:=HC4.o.blk;have HB1:=hY b1;clear b1;refine(coAck_one (w0:=w) HB1.o HG4.o HC4.o.g HB4.o).mono ?_;rintro e w5 ⟨rfl,hz5,hg5,hgr5⟩;have HZ5:=hY (hz5.trans HB1.o);have HG5:=hY hg5;have HGR5:=hY hgr5;clear hz5 hg5 hgr5
 go_wp2_with (go_at_call 27;refine(coReady_one HZ5.o HG5.o).mono ?_;rintro e w6 ⟨rfl,R6,n6,rfl⟩)
 go_ret;exact⟨rfl,HGR5.o.trans gw⟩
def PlansAt(w:World)(v:Value)(l:List (List Gr.Stp)): Prop:=∃xs:List SlC,RowsAt 1 encSl w v xs∧Rel (fun(x:SlC) p=>StepsAt w x.v p) xs l
theorem PlansAt.at{w:World}{v:Value}{l:List (List Gr.Stp)}(h:PlansAt w v l): ∃a cap,v = .slice a l.length cap∧l.length≤9223372036854775807∧∀k (hk:k<l.length),∃b off,a=some ⟨b,off,none⟩∧Pre b w∧∃x:SlC,StepsAt w x.v l[k]∧w.cell? ⟨b,off+k,none⟩=some x.v:=by
 obtain⟨xs,h1,h2⟩:=h;have hl:=Rel.len h2;obtain⟨a,cap,e,hm,hx⟩:=RowsAt.open1 (f:=SlC.v) h1;rw[hl] at e hm;refine⟨a,cap,e,hm,fun k hk=>?_⟩;obtain⟨b,off,hab,hb,hc⟩:=hx k (by omega);exact⟨b,off,hab,hb,xs[k]'(by omega),Rel.get h2 k _ _ (List.getElem?_eq_getElem (by omega)) (List.getElem?_eq_getElem hk),hc⟩
def clP(p:List Gr.Stp): List Gr.Stp:=p.map Gr.cleanS
structure Live3 (w wr:World) (z bk lg:Nat) (g:List Gr.Nd) (v:Value) (q:List (List Gr.Stp)):Prop where
 co:CoAt w wr z bk lg [] (firstM g) (q.map clP) (.pointer none) false 0 0
 wt:Gr.Waits checkR (firstM g).graph (q.map clP)
 ws:∃ws:List SlC,OwnAt w.heap.size 34 1 encSl wr v ws∧Rel (fun(x:SlC) p=>StepsAt w x.v p∧∀s∈p,smallS s) ws q
 ap:∀qv b,wr.cell? ⟨z,3,none⟩=some qv→v.ownBlock=some b→qv.ownBlock≠some b
theorem Live3.grew{w wr wx:World}{z bk lg:Nat}{g:List Gr.Nd}{v:Value}{q:List (List Gr.Stp)}(h:Live3 w wr z bk lg g v q)(gr:Grew wr wx): Live3 w wx z bk lg g v q:=by
 obtain⟨hv,qv,h1,-,-⟩:=h.co.blk;obtain⟨ws,h2,h3⟩:=h.ws;refine⟨h.co.grew gr,h.wt,⟨ws,h2.grew gr,h3⟩,fun qv' b hq hb=>?_⟩;have e1:=cell_grew (cell_of (o:=3) h1) gr;rw[hq] at e1;cases e1;exact h.ap _ b (cell_of (o:=3) h1) hb
theorem Live3.push{w w1 w2 W7:World}{z bk lg:Nat}{g:List Gr.Nd}{v v7:Value}{q:List (List Gr.Stp)}{p:List Gr.Stp}{ws:List SlC}{x:SlC}(gr:Grew w1 w2)(hc:CoAt w w1 z bk lg [] (firstM g) ((q++[p]).map clP) (.pointer none) false 0 0)(ho:OwnAt w.heap.size 34 1 encSl w1 v ws)(hr:Rel (fun(x:SlC) p=>StepsAt w x.v p∧∀s∈p,smallS s) ws q)(hap:∀qv b,w1.cell? ⟨z,3,none⟩=some qv→v.ownBlock=some b→qv.ownBlock≠some b)(hw:Gr.Waits checkR (firstM g).graph ((q++[p]).map clP))(hx:StepsAt w x.v p∧∀s∈p,smallS s)(hA:Appended w 34 1 encSl w2 v (ws++[x]) v7 W7): Live3 w W7 z bk lg g v7 (q++[p]):=by
 obtain⟨hv0,qv0,h1,-⟩:=hc.blk
 have hap:∀qv b,w2.cell? ⟨z,3,none⟩=some qv→v.ownBlock=some b→qv.ownBlock≠some b:=fun qv b hq=>by
  have e1:=cell_grew (cell_of (o:=3) h1) gr;rw[hq] at e1;cases e1;exact hap _ b (cell_of (o:=3) h1)
 replace hc:=hc.grew gr
 replace ho:=ho.grew gr
 clear h1;obtain⟨hv,qv,h1,h2,qs,h3,h4⟩:=hc.blk;have c3:=cell_of (o:=3) h1;have b1:=app_blk hA (Grew.refl w2) h1 (ho.other h1 (by decide));have hl:Leaves [34] w2 W7:=Leaves.app (Leaves.refl _ _) ho hA (by simp);have hT:NoData [34]:=by simp[NoData]
 refine⟨⟨⟨hv,qv,b1,h2.leaves hl hT (by simp),qs,OwnAt.same h3 fun b hb=>?_,Rel.mono (fun _ _ e=>⟨e.1.leaves hl hT,e.2⟩) h4⟩,hc.ok,hc.n,hc.z0,hA.1⟩,hw,⟨ws++[x],hA.2.1,Rel.snoc hr hx⟩,fun q2 b hq hb e=>?_⟩
 ·obtain⟨-,c,hc⟩:=OwnAt.block h3 hb;exact hA.2.2.2.1 b (heap_lt hc) fun e=>hap qv b c3 e hb
 ·have c3':=cell_of (o:=3) b1;rw[hq] at c3';cases c3';obtain⟨-,c,hc⟩:=OwnAt.block h3 e;rcases hA.2.2.2.2 b hb with h5|h5
  ·exact hap _ b c3 h5 e
  ·have:=heap_lt hc;omega
theorem planR_len(p:List Gr.Stp): (planR p).1.length≤100000:=by
 by_cases h:Gr.OkPl fitsP p
 ·rw[planR_ok h];have:=putPl_len h;simp only;omega
 ·rw[planR_no h];simp
end Go.Proofs.YtipgfjihdglocaaGreat
namespace Go.Proofs.YtipgfjihdglocaaGreat
open Go.RowKit Ga Go.ChangeShapes Go.WideShapes
theorem cells_slStep:Tryz.prog.cellsOf 34=1:=by kernel_rfl
theorem opens_plan:Opens Tryz.prog 34 (fun w cs (x:SlC×List Gr.Stp)=>cs=encSl x.1∧StepsAt w x.1.v x.2):=by
 intro H enc w fuel cs x hx;obtain⟨l,u,h1,h2⟩:=Opens.slice Tryz.underlying34 cells_step (by decide) opens_step H enc w fuel cs x hx;have h3:=steps_of h2;obtain⟨a,cap,rfl,-⟩:=h2;exact⟨((a,l.length,cap),l.map (·.2)),h1,h3⟩
theorem plans_of{w:World}{v:Value}{l:List (SlC×List Gr.Stp)}(h:SlAt 1 (fun w cs (x:SlC×List Gr.Stp)=>cs=encSl x.1∧StepsAt w x.1.v x.2) w v l): PlansAt w v (l.map (·.2)):=by
 obtain⟨a,cap,rfl,hl,hm,hnil,hx⟩:=h;refine⟨l.map (·.1),⟨a,cap,by simp,Nat.le_trans (by simpa using hl) hm,fun hne=>?_⟩,?_⟩
 ·obtain⟨b,off,rfl,hc⟩:=hx (by intro e;subst e;exact hne rfl);refine⟨b,off,rfl,fun i c hi j u hu=>?_⟩;rw[List.getElem?_map] at hi;obtain⟨y,hy,rfl⟩:=Option.map_eq_some_iff.1 hi;obtain⟨cs,-,⟨rfl,-⟩,h2⟩:=hc i y hy;exact h2 j u hu
 ·have key:∀y∈l,StepsAt w y.1.v y.2:=fun y hy=>by
   obtain⟨i,hi,rfl⟩:=List.mem_iff_getElem.1 hy;obtain⟨b,off,rfl,hx2⟩:=hx (by intro e;subst e;simp at hi);obtain⟨cs,-,⟨-,h1⟩,-⟩:=hx2 i _ (List.getElem?_eq_getElem hi);exact h1
  clear hx hl hm hnil
  induction l with
  | nil=>exact trivial
  | cons y l ih=>exact⟨key y List.mem_cons_self,ih fun z hz=>key z (List.mem_cons_of_mem _ hz)⟩
theorem arg_plans{H:Type}{enc:TypeId×Value→H}{w:World}{v:Value}{d:DataW H}{ps:List MemPlace}{r:Reach}{b:Nat}(ho:Value.okWide Tryz.prog w r b 23 v)(h:DataW.Trod enc Tryz.prog w 0 (fun _=>true) true 23 v d ps): ∃l,PlansAt w v l:=by
 obtain⟨l,u,h1,h2⟩:=(Opens.slice Tryz.underlying23 cells_slStep (by decide) opens_plan).arg h;obtain rfl:=cells_slice Tryz.underlying23 ho h1;exact⟨_,plans_of h2⟩
end Go.Proofs.YtipgfjihdglocaaGreat
