import Derived.Test.YtipgfjihdglocaaGreatCq17
import Derived.Test.YtipgfjihdglocaaGreatCq10
import Derived.Test.YtipgfjihdglocaaGreatCq12
import Derived.Test.YtipgfjihdglocaaGreatCq5
import Derived.Test.YtipgfjihdglocaaGreatCq16
import Derived.Test.YtipgfjihdglocaaGreatCq13
import Derived.Deep.QuietTactic
import Derived.BigQuiet
import Derived.Deep.RegionHeld3
import Derived.Deep.DeepCutAuto
import Derived.Deep.CutBlock
set_option linter.unusedSimpArgs false
set_option linter.unusedVariables false
set_option maxRecDepth 100000
set_option maxHeartbeats 64000000
namespace Go.Proofs.YtipgfjihdglocaaGreat
open Go.RowKit Ga
def wkC(v:Value)(st:StC)(ix:Int): List Value:=v::(encSt st++[.int .i64 ix])
structure Work (w0 W:World) (B:Nat) (v:Value) (lc:List NdC) (l:List Gr.Nd) (st:StC) (s:Gr.Stp) (ix:Int):Prop where
 blk:W.heap[B]? = some (.cells (wkC v st ix).toArray 172)
 own:NodesOwn w0.heap.size W v lc
 inn:NodesIn w0.heap.size W lc l
 stp:StepIs W st s
 sto:OwnsNd w0.heap.size W st.c s.nd
 g:Grew w0 W
 lb:w0.heap.size≤B
theorem Work.grew{w0 W W':World}{B:Nat}{v:Value}{lc:List NdC}{l:List Gr.Nd}{st:StC}{s:Gr.Stp}{ix:Int}(h:Work w0 W B v lc l st s ix)(q:Grew W W'): Work w0 W' B v lc l st s ix :=
 ⟨grew_heap q h.blk,h.own.grew q,h.inn.grew q,h.stp.grew q,h.sto.grew q,h.g.trans q,h.lb⟩
theorem OwnsNd.toN{base:Nat}{w w':World}{c:NdC}{n:Gr.Nd}(o:OwnsNd base w c n)(hb:∀(q:Nat) (cs:Array Value) (t:TypeId),w.heap[q]? = some (.cells cs t)→t≠52→t≠172→w'.heap[q]? = w.heap[q]?): OwnsNd base w' c n:=by
 refine⟨OwnAt.same o.1 fun b h=>?_,OwnAt.same o.2 fun b h=>?_⟩
 ·obtain⟨h1,cs,h2⟩:=OwnAt.block o.1 h;exact hb b cs _ h2 (by decide) (by decide)
 ·obtain⟨h1,cs,h2⟩:=OwnAt.block o.2 h;exact hb b cs _ h2 (by decide) (by decide)
def Oth(w w':World): Prop:=∀(q:Nat) (cs:Array Value) (t:TypeId),w.heap[q]? = some (.cells cs t)→t≠52→t≠172→w'.heap[q]? = w.heap[q]?
theorem NodesIn.oth{base:Nat}{w w':World}{lc:List NdC}{l:List Gr.Nd}(h:NodesIn base w lc l)(hk:Oth w w'): NodesIn base w' lc l :=
 Rel.mono (fun c n ⟨h1,h2⟩=>⟨(h2.toN hk).is h1,h2.toN hk⟩) h
theorem Oth.set{w:World}{b o:Nat}{v:Value}{cs:Array Value}{t:TypeId}(hb:w.heap[b]? = some (.cells cs t))(ht:t=52∨t=172): Oth w (w.setCell ⟨b,o,none⟩ v):=by
 intro q cs' t' hq h1 h2;refine set_other fun e=>?_
 subst e;rw[hb] at hq;cases hq;exact ht.elim h1 h2
theorem Oth.trans{a b c:World}(h:Oth a b)(k:Oth b c): Oth a c:=fun q cs t hq h1 h2=>by
 have e:=h q cs t hq h1 h2;rw[k q cs t (e.trans hq) h1 h2,e]
theorem Rel.set{α β:Type}{R:α→β→Prop}: ∀{xs:List α} {ys:List β},Rel R xs ys→∀(i:Nat) {a:α} {b:β},R a b→Rel R (xs.set i a) (ys.set i b)
 | [],[],_,i,a,b,h=>trivial
 | x::xs,y::ys,h,0,a,b,h2=>⟨h2,h.2⟩
 | x::xs,y::ys,h,i+1,a,b,h2=>⟨h.1,Rel.set h.2 i h2⟩
 | [],_::_,h,_,_,_,_=>h.elim
 | _::_,[],h,_,_,_,_=>h.elim
theorem Rel.cut{α β:Type}{R:α→β→Prop}: ∀{xs:List α} {ys:List β},Rel R xs ys→∀(i:Nat),Rel R (xs.take i++xs.drop (i+1)) (ys.take i++ys.drop (i+1))
 | [],[],_,i=>by simp[Rel]
 | x::xs,y::ys,h,0=>h.2
 | x::xs,y::ys,h,i+1=>⟨h.1,Rel.cut h.2 i⟩
 | [],_::_,h,_=>h.elim
 | _::_,[],h,_=>h.elim
theorem own_cellN{base b n cap i j:Nat}{W:World}{lc:List NdC}{c:NdC}(h:NodesOwn base W (.slice (some ⟨b,0,none⟩) n cap) lc)(hi:lc[i]? = some c)(hj:j<13): W.cell? ⟨b,i*13+j,none⟩=(encNd c)[j]? :=by
 obtain⟨h1,h2,h3,h4,cur,h5,h6,-⟩:=OwnAt.cells h;have hl:i<lc.length:=(List.getElem?_eq_some_iff.1 hi).1;rw[cell_of h5,OwnAt.get h h5 _ (by omega),flat_at encNd_len hi hj]
theorem own_set1{base b n cap i f:Nat}{W:World}{lc:List NdC}{c c':NdC}{x:Value}(h:NodesOwn base W (.slice (some ⟨b,0,none⟩) n cap) lc)(hi:lc[i]? = some c)(hf:f<13)(he:encNd c'=(encNd c).set f x): NodesOwn base (W.setCell ⟨b,i*13+f,none⟩ x) (.slice (some ⟨b,0,none⟩) n cap) (lc.set i c'):=by
 obtain⟨h1,h2,h3,h4,cur,h5,h6,-⟩:=OwnAt.cells h;have hl:i<lc.length:=(List.getElem?_eq_some_iff.1 hi).1;refine OwnAt.upd encNd_len (by decide) h hl h5 (set_self h5) (by simp) (fun q hq=>?_) fun r hr=>?_
 ·rw[Array.getElem?_setIfInBounds,if_neg (by omega)]
 ·rw[he,Array.getElem?_setIfInBounds,List.getElem?_set];have hlen:(encNd c).length=13:=rfl;by_cases e:f=r
  ·subst e;rw[if_pos rfl,if_pos rfl,if_pos (by omega),if_pos (by omega)]
  ·rw[if_neg (by omega),if_neg e,OwnAt.get h h5 _ (by omega),flat_at encNd_len hi hr]
def WkPost(w0:World)(B:Nat)(st:StC)(s:Gr.Stp)(ix:Int)(r:Int×List Gr.Nd)(W:World)(e:Ending)(w':World): Prop:=e = .returned (.int .i64 r.1)∧(r.1=0→∃v lc,Work w0 w' B v lc r.2 st s ix)∧Grew w0 w'
def swapE(l:List Gr.Nd)(i:Nat)(n:Gr.Nd)(s:Gr.Stp): Int×List Gr.Nd:=if n.kind≠1 then (11,[]) else if Vm.safe s.nd.prog=true then (0,l.set i { n with prog:=s.nd.prog }) else (9,[])
theorem swap_any(w0 W:World)(B b n cap i:Nat)(lc:List NdC)(l:List Gr.Nd)(st:StC)(s:Gr.Stp)(ix:Int)(h:Work w0 W B (.slice (some ⟨b,0,none⟩) n cap) lc l st s ix)(hi:i<l.length): Calls Tryz.prog 156 #[.pointer (some ⟨B,0,none⟩),.pointer (some ⟨b,i*13,none⟩)] W (WkPost w0 B st s ix (swapE l i l[i] s) W):=by
 have hlen:=Rel.len h.inn;have hic:i<lc.length:=by omega
 obtain⟨c,hc⟩:∃c,lc[i]? = some c:=⟨_,List.getElem?_eq_getElem hic⟩;obtain⟨hni,hno⟩:=Rel.get h.inn i c l[i] hc (List.getElem?_eq_getElem hi);have hk:=hni.kind;have H:=hY h;have HC:=hY hc;have HNI:=hY hni;have HNO:=hY hno;have HS:=hY fun W2 (g:Grew W W2)=>safe_any _ _ W2 (h.stp.nd.p.grew g)
 have k0:=own_cellN (j:=1) h.own hc (by decide);have k3:=own_cellN (j:=3) h.own hc (by decide);simp[encNd] at k0 k3;obtain⟨_,hbb,_,_,cur,hcur,_,_⟩:=OwnAt.cells h.own;have pb:=Pre.mk (heap_lt hcur);have fb:=frozen_of (o:=i*13+3) hcur;have HCUR:=hY hcur;have x5:=cell_of (o:=5) h.blk;have pB:=Pre.mk (heap_lt h.blk);simp[wkC,encSt] at x5;have HB:=hY hbb;clear h hc hni hno hcur;by_cases h1:l[i].kind=1
 case neg =>
  have he:swapE l i l[i] s=(11,[]):=if_pos h1;rw[he];have hne:(c.kind != 1)=true:=by rw[bne_iff_ne,←hk];exact h1
  clear he h1;go_enter Tryz.func156,Tryz.ntmps156
  go_wp2_with fail
  go_ret;exact⟨rfl,fun q=>absurd q (by decide),H.o.g.trans gw⟩
 have hne:(c.kind != 1)=false:=by rw[←hk,h1];rfl
 cases hs:Vm.safe s.nd.prog
 ·have he:swapE l i l[i] s=(9,[]):=by unfold swapE;rw[if_neg (by simpa using h1),hs];rfl
  rw[he];rw[hs] at HS;clear he h1 hs;go_enter Tryz.func156,Tryz.ntmps156
  go_wp2_with (go_at_call 131;refine(HS.o _ gw).mono ?_;rintro e w1 ⟨rfl,R3,n3,rfl⟩)
  go_ret;exact⟨rfl,fun q=>absurd q (by decide),H.o.g.trans gw⟩
 ·have he:swapE l i l[i] s=(0,l.set i { l[i] with prog:=s.nd.prog }):=by unfold swapE;rw[if_neg (by simpa using h1),hs];rfl
  rw[he];rw[hs] at HS;clear he h1 hs
  have hW:Work w0 (W.setCell ⟨b,i*13+3,none⟩ (.slice st.c.ap st.c.np st.c.cp)) B (.slice (some ⟨b,0,none⟩) n cap) (lc.set i { c with ap:=st.c.ap,np:=st.c.np,cp:=st.c.cp }) (l.set i { l[i] with prog:=s.nd.prog }) st s ix:=by
   have ho:Oth W (W.setCell ⟨b,i*13+3,none⟩ (.slice st.c.ap st.c.np st.c.cp)):=Oth.set HCUR.o (.inl rfl);have o1:=HNO.o.toN ho;have o2:=H.o.sto.toN ho;refine⟨?_,own_set1 H.o.own HC.o (by decide) rfl,Rel.set (H.o.inn.oth ho) i ⟨?_,?_⟩,?_,o2,H.o.g.set HB.o _,H.o.lb⟩
   ·rw[set_other fun e=>?_]
    ·exact H.o.blk
    ·have:=H.o.blk;rw[←e,HCUR.o] at this;cases this
   ·have:=o1.is HNI.o;exact { this with p:=OwnAt.rows o2.2 encI_len }
   ·exact⟨o1.1,o2.2⟩
   ·exact { H.o.stp with nd:=o2.is H.o.stp.nd }
  have HW:=hY hW;clear hW;go_enter Tryz.func156,Tryz.ntmps156
  go_wp2_with (go_at_call 131;refine(HS.o _ gw).mono ?_;rintro e w1 ⟨rfl,R3,n3,rfl⟩)
  go_ret;refine⟨rfl,fun _=>⟨_,_,Work.grew HW.o gw⟩,HW.o.g.trans gw⟩
theorem Work.app{w0 W Wc W7:World}{B:Nat}{v v7:Value}{lc:List NdC}{l:List Gr.Nd}{st:StC}{s:Gr.Stp}{ix:Int}(h:Work w0 W B v lc l st s ix)(g:Grew W Wc)(hA:Appended w0 52 13 encNd Wc v (lc++[st.c]) v7 W7):
  W7.heap[B]? = some (.cells (wkC v st ix).toArray 172)∧Work w0 (W7.setCell ⟨B,0,none⟩ v7) B v7 (lc++[st.c]) (l++[s.nd]) st s ix:=by
 have hb:=grew_heap g h.blk;have hown:=h.own.grew g
 have h7:W7.heap[B]? = some (.cells (wkC v st ix).toArray 172):=by
  rw[hA.2.2.2.1 B (heap_lt hb) (OwnAt.other hown hb (by decide))];exact hb
 refine⟨h7,?_⟩;have o1:Oth Wc W7:=fun q cs t hq h1 _=>hA.2.2.2.1 q (heap_lt hq) (OwnAt.other hown hq h1)
 have ho:Oth Wc (W7.setCell ⟨B,0,none⟩ v7):=o1.trans (Oth.set h7 (.inr rfl));have hs:=(h.sto.grew g).toN ho;refine⟨?_,?_,Rel.snoc ((h.inn.grew g).oth ho) ⟨hs.is (h.stp.grew g).nd,hs⟩,?_,hs,hA.1.set h.lb _,h.lb⟩
 ·rw[set_self h7]
  congr 2
 ·exact OwnAt.same hA.2.1 fun q hq=>set_other fun e=>OwnAt.other hA.2.1 h7 (by decide) (e▸hq)
 ·exact { h.stp.grew g with nd:=hs.is (h.stp.grew g).nd }
def addE(l:List Gr.Nd)(s:Gr.Stp)(ix:Int): Int×List Gr.Nd:=if 0≤ix then (13,[]) else if s.nd.kind=0 then (11,[]) else (0,l++[s.nd])
theorem add_any(w0 W:World)(B:Nat)(v:Value)(lc:List NdC)(l:List Gr.Nd)(st:StC)(s:Gr.Stp)(ix:Int)(h:Work w0 W B v lc l st s ix)(hl:l.length≤1000): Calls Tryz.prog 111 #[.pointer (some ⟨B,0,none⟩)] W (WkPost w0 B st s ix (addE l s ix) W):=by
 have hlen:=Rel.len h.inn;have hk:=h.stp.nd.kind;have H:=hY h;obtain⟨kd,⟨id,kind,af,nf,cf,ap,np,cp,par,r0,r1,r2,r3,r4,r5,r6,r7⟩,rs⟩:=st;simp only at hk;have x0:=cell_of (o:=0) h.blk;have x2:=cell_of (o:=2) h.blk;have x3:=cell_of (o:=3) h.blk;have x4:=cell_of (o:=4) h.blk;have x5:=cell_of (o:=5) h.blk;have x6:=cell_of (o:=6) h.blk;have x7:=cell_of (o:=7) h.blk;have x8:=cell_of (o:=8) h.blk;have x9:=cell_of (o:=9) h.blk;have x10:=cell_of (o:=10) h.blk;have x11:=cell_of (o:=11) h.blk;have x12:=cell_of (o:=12) h.blk;have x13:=cell_of (o:=13) h.blk;have x14:=cell_of (o:=14) h.blk;have x16:=cell_of (o:=16) h.blk;have pB:=Pre.mk (heap_lt h.blk);simp[wkC,encSt] at x0 x2 x3 x4 x5 x6 x7 x8 x9 x10 x11 x12 x13 x14 x16;have HLC:Hid (lc.length≤1000):=hY (by omega);clear h hlen;by_cases h0:0≤ix
 ·have he:addE l s ix=(13,[]):=if_pos h0;rw[he];clear he;go_enter Tryz.func111,Tryz.ntmps111
  go_wp2_with fail
  go_ret;exact⟨rfl,fun q=>absurd q (by decide),H.o.g.trans gw⟩
 by_cases h1:s.nd.kind=0
 ·have he:addE l s ix=(11,[]):=by unfold addE;rw[if_neg h0,if_pos h1]
  rw[he];have hkz:kind=0:=by rw[←hk];exact h1
  subst hkz;clear he h1 hk;go_enter Tryz.func111,Tryz.ntmps111
  go_wp2_with fail
  go_ret;exact⟨rfl,fun q=>absurd q (by decide),H.o.g.trans gw⟩
 ·have he:addE l s ix=(0,l++[s.nd]):=by unfold addE;rw[if_neg h0,if_neg h1]
  rw[he];have hkz:(kind==0)=false:=by rw[←hk];simpa using h1
  clear he h1 hk;go_enter Tryz.func111,Tryz.ntmps111
  go_upto_region 5 with fail
  go_cut [] (fun wx=>∃v' lc',Work w0 wx B v' lc' (l++[s.nd]) ⟨kd,⟨id,kind,af,nf,cf,ap,np,cp,par,r0,r1,r2,r3,r4,r5,r6,r7⟩,rs⟩ s ix)
  case first =>
   refine wp_region_noPanic ?_
   go_region_law (refine step_ownK (w0:=w0) (v:=v) rfl (.tmp 21) (.tmp 27) 22 _ _ _ _ [⟨id,kind,af,nf,cf,ap,np,cp,par,r0,r1,r2,r3,r4,r5,r6,r7⟩] rfl Tryz.underlying22 infoNdP rfl (by decide) encNd_len encNd_oneP rfl (OwnAt.grew H.o.own gw) (H.o.g.trans gw) rfl (nd_at _ _ _ _ rfl (by simp[go_sem])) (by have:=HLC.o;simp;omega) (by decide) Nat.one_pos ?_;intro v9 W9 hA;obtain⟨a9,c9,rfl⟩:=(OwnAt.rows hA.2.1 encNd_len).len;obtain⟨hb9,hw9⟩:=H.o.app gw hA;(have HW9:=hY hw9);(have cb9:=cell_of (o:=0) hb9);(have fb9:=frozen_of (o:=0) hb9);(have pb9:=Pre.mk (heap_lt hb9));simp[wkC] at cb9;clear hA hb9 hw9)
   all_goals
    refine NoPanic.normal ?_;go_wp2
    go_meet
    have hw:=HW9.o;rw[List.length_append,List.length_singleton] at hw;exact⟨_,_,hw⟩
  obtain⟨v',lc',hw⟩:=hcut;have HW:=hY hw;clear hw;go_wp2;go_ret;exact⟨rfl,fun _=>⟨_,_,Work.grew HW.o gw⟩,HW.o.g.trans gw⟩
def chgE(l:List Gr.Nd)(i:Nat)(n:Gr.Nd)(s:Gr.Stp): Int×List Gr.Nd :=
 if s.kind=1 then swapE l i n s
 else if s.kind=3 then (if n.kind=0∨kidB l n.id=true then (11,[]) else (0,l.take i++l.drop (i+1)))
 else if s.kind=4 then (if n.kind=0 then (11,[]) else (0,l.set i { n with par:=s.nd.par,route:=s.nd.route }))
 else (if n.kind≠2 then (11,[]) else (0,l.set i { n with frm:=s.nd.frm }))
theorem Work.setN{w0 W W':World}{B b n cap i:Nat}{lc:List NdC}{l:List Gr.Nd}{st:StC}{s:Gr.Stp}{ix:Int}{c':NdC}{m':Gr.Nd}(h:Work w0 W B (.slice (some ⟨b,0,none⟩) n cap) lc l st s ix)(ho:Oth W W')(hB:W'.heap[B]? = W.heap[B]?)(hg:Grew w0 W')(hown:NodesOwn w0.heap.size W' (.slice (some ⟨b,0,none⟩) n cap) (lc.set i c'))(h1:NodeIs W' c' m')(h2:OwnsNd w0.heap.size W' c' m'):
  Work w0 W' B (.slice (some ⟨b,0,none⟩) n cap) (lc.set i c') (l.set i m') st s ix:=by
 have o2:=h.sto.toN ho;exact⟨hB.trans h.blk,hown,Rel.set (h.inn.oth ho) i ⟨h1,h2⟩,{ h.stp with nd:=o2.is h.stp.nd },o2,hg,h.lb⟩
theorem Work.del{w0 W W':World}{B b n m cap i:Nat}{lc:List NdC}{l:List Gr.Nd}{st:StC}{s:Gr.Stp}{ix:Int}(h:Work w0 W B (.slice (some ⟨b,0,none⟩) n cap) lc l st s ix)(hk:Keep b W W')(hg:Grew w0 W')(hown:NodesOwn w0.heap.size W' (.slice (some ⟨b,0,none⟩) m cap) (lc.take i++lc.drop (i+1))):
  W'.heap[B]? = some (.cells (wkC (.slice (some ⟨b,0,none⟩) n cap) st ix).toArray 172)∧Work w0 (W'.setCell ⟨B,0,none⟩ (.slice (some ⟨b,0,none⟩) m cap)) B (.slice (some ⟨b,0,none⟩) m cap) (lc.take i++lc.drop (i+1)) (l.take i++l.drop (i+1)) st s ix:=by
 obtain⟨-,-,-,-,cur,hcur,-,-⟩:=OwnAt.cells h.own
 have hne:B≠b:=fun e=>by
  have:=h.blk;rw[e,hcur] at this;cases this
 have h7:W'.heap[B]? = some (.cells (wkC (.slice (some ⟨b,0,none⟩) n cap) st ix).toArray 172):=(hk.2 B (heap_lt h.blk) hne).trans h.blk;refine⟨h7,?_⟩
 have o1:Oth W W':=fun q cs t hq h1 _=>hk.2 q (heap_lt hq) fun e=>by
  subst e;rw[hcur] at hq;cases hq;exact h1 rfl
 have ho:=o1.trans (Oth.set (o:=0) (v:=.slice (some ⟨b,0,none⟩) m cap) h7 (.inr rfl));have o2:=h.sto.toN ho;refine⟨?_,?_,Rel.cut (h.inn.oth ho) i,{ h.stp with nd:=o2.is h.stp.nd },o2,hg.set h.lb _,h.lb⟩
 ·rw[set_self h7]
  congr 2
 ·exact OwnAt.same hown fun q hq=>set_other fun e=>OwnAt.other hown h7 (by decide) (e▸hq)
theorem Work.set5{w0 W:World}{B b n cap i:Nat}{lc:List NdC}{l:List Gr.Nd}{st:StC}{s:Gr.Stp}{ix:Int}{c:NdC}(h:Work w0 W B (.slice (some ⟨b,0,none⟩) n cap) lc l st s ix)(hc:lc[i]? = some c)(hi:i<l.length):
  Work w0 (W.setCell ⟨b,i*13+2,none⟩ (.slice st.c.af st.c.nf st.c.cf)) B (.slice (some ⟨b,0,none⟩) n cap) (lc.set i { c with af:=st.c.af,nf:=st.c.nf,cf:=st.c.cf }) (l.set i { l[i] with frm:=s.nd.frm }) st s ix:=by
 obtain⟨hni,hno⟩:=Rel.get h.inn i c l[i] hc (List.getElem?_eq_getElem hi);obtain⟨_,hbb,_,_,cur,hcur,_,_⟩:=OwnAt.cells h.own;have ho:Oth W (W.setCell ⟨b,i*13+2,none⟩ (.slice st.c.af st.c.nf st.c.cf)):=Oth.set hcur (.inl rfl);have o1:=hno.toN ho;have o2:=h.sto.toN ho;refine h.setN ho (set_other fun e=>?_) (h.g.set hbb _) (own_set1 h.own hc (by decide) rfl) ?_ ⟨o2.1,o1.2⟩
 ·have:=h.blk;rw[←e,hcur] at this;cases this
 ·have:=o1.is hni;exact { this with f:=OwnAt.rows o2.1 encN_len,fc:=h.stp.nd.fc }
theorem Work.set4{w0 W:World}{B b n cap i:Nat}{lc:List NdC}{l:List Gr.Nd}{st:StC}{s:Gr.Stp}{ix:Int}{c:NdC}(h:Work w0 W B (.slice (some ⟨b,0,none⟩) n cap) lc l st s ix)(hc:lc[i]? = some c)(hi:i<l.length):
  Work w0 (((((((((W.setCell ⟨b,i*13+4,none⟩ (.int .i64 st.c.par)).setCell ⟨b,i*13+5,none⟩ (.int .i64 st.c.r0)).setCell ⟨b,i*13+6,none⟩ (.int .i64 st.c.r1)).setCell ⟨b,i*13+7,none⟩ (.int .i64 st.c.r2)).setCell ⟨b,i*13+8,none⟩ (.int .i64 st.c.r3)).setCell ⟨b,i*13+9,none⟩ (.int .i64 st.c.r4)).setCell ⟨b,i*13+10,none⟩ (.int .i64 st.c.r5)).setCell ⟨b,i*13+11,none⟩ (.int .i64 st.c.r6)).setCell ⟨b,i*13+12,none⟩ (.int .i64 st.c.r7)) B (.slice (some ⟨b,0,none⟩) n cap) (lc.set i { c with par:=st.c.par,r0:=st.c.r0,r1:=st.c.r1,r2:=st.c.r2,r3:=st.c.r3,r4:=st.c.r4,r5:=st.c.r5,r6:=st.c.r6,r7:=st.c.r7 }) (l.set i { l[i] with par:=s.nd.par,route:=s.nd.route }) st s ix:=by
 have hic:i<lc.length:=(List.getElem?_eq_some_iff.1 hc).1;obtain⟨hni,hno⟩:=Rel.get h.inn i c l[i] hc (List.getElem?_eq_getElem hi);obtain⟨_,hbb,_,_,cur,hcur,_,_⟩:=OwnAt.cells h.own;have c0:=hcur;have c1:=set_self (o:=i*13+4) (v:=(.int .i64 st.c.par)) c0;have c2:=set_self (o:=i*13+5) (v:=(.int .i64 st.c.r0)) c1;have c3:=set_self (o:=i*13+6) (v:=(.int .i64 st.c.r1)) c2;have c4:=set_self (o:=i*13+7) (v:=(.int .i64 st.c.r2)) c3;have c5:=set_self (o:=i*13+8) (v:=(.int .i64 st.c.r3)) c4;have c6:=set_self (o:=i*13+9) (v:=(.int .i64 st.c.r4)) c5;have c7:=set_self (o:=i*13+10) (v:=(.int .i64 st.c.r5)) c6;have c8:=set_self (o:=i*13+11) (v:=(.int .i64 st.c.r6)) c7;have c9:=set_self (o:=i*13+12) (v:=(.int .i64 st.c.r7)) c8;have ho:Oth W (((((((((W.setCell ⟨b,i*13+4,none⟩ (.int .i64 st.c.par)).setCell ⟨b,i*13+5,none⟩ (.int .i64 st.c.r0)).setCell ⟨b,i*13+6,none⟩ (.int .i64 st.c.r1)).setCell ⟨b,i*13+7,none⟩ (.int .i64 st.c.r2)).setCell ⟨b,i*13+8,none⟩ (.int .i64 st.c.r3)).setCell ⟨b,i*13+9,none⟩ (.int .i64 st.c.r4)).setCell ⟨b,i*13+10,none⟩ (.int .i64 st.c.r5)).setCell ⟨b,i*13+11,none⟩ (.int .i64 st.c.r6)).setCell ⟨b,i*13+12,none⟩ (.int .i64 st.c.r7)):=(((((((((Oth.set c0 (.inl rfl)).trans (Oth.set c1 (.inl rfl))).trans (Oth.set c2 (.inl rfl))).trans (Oth.set c3 (.inl rfl))).trans (Oth.set c4 (.inl rfl))).trans (Oth.set c5 (.inl rfl))).trans (Oth.set c6 (.inl rfl))).trans (Oth.set c7 (.inl rfl))).trans (Oth.set c8 (.inl rfl)));have o1:=hno.toN ho;have o2:=h.sto.toN ho
 have hBb:b≠B:=fun e=>by
  have:=h.blk;rw[←e,hcur] at this;cases this
 have n1:NodesOwn w0.heap.size (W.setCell ⟨b,i*13+4,none⟩ (.int .i64 st.c.par)) (.slice (some ⟨b,0,none⟩) n cap) (lc.set i { c with par:=st.c.par }):=by
  have:=own_set1 (c:=c) (c':={ c with par:=st.c.par }) (f:=4) (i:=i) (x:=(.int .i64 st.c.par)) h.own hc (by decide) rfl;exact this
 have n2:NodesOwn w0.heap.size ((W.setCell ⟨b,i*13+4,none⟩ (.int .i64 st.c.par)).setCell ⟨b,i*13+5,none⟩ (.int .i64 st.c.r0)) (.slice (some ⟨b,0,none⟩) n cap) (lc.set i { c with par:=st.c.par,r0:=st.c.r0 }):=by
  have:=own_set1 (c:={ c with par:=st.c.par }) (c':={ c with par:=st.c.par,r0:=st.c.r0 }) (f:=5) (i:=i) (x:=(.int .i64 st.c.r0)) n1 (by rw[List.getElem?_set_self hic]) (by decide) rfl
  rwa [List.set_set] at this
 have n3:NodesOwn w0.heap.size (((W.setCell ⟨b,i*13+4,none⟩ (.int .i64 st.c.par)).setCell ⟨b,i*13+5,none⟩ (.int .i64 st.c.r0)).setCell ⟨b,i*13+6,none⟩ (.int .i64 st.c.r1)) (.slice (some ⟨b,0,none⟩) n cap) (lc.set i { c with par:=st.c.par,r0:=st.c.r0,r1:=st.c.r1 }):=by
  have:=own_set1 (c:={ c with par:=st.c.par,r0:=st.c.r0 }) (c':={ c with par:=st.c.par,r0:=st.c.r0,r1:=st.c.r1 }) (f:=6) (i:=i) (x:=(.int .i64 st.c.r1)) n2 (by rw[List.getElem?_set_self hic]) (by decide) rfl
  rwa [List.set_set] at this
 have n4:NodesOwn w0.heap.size ((((W.setCell ⟨b,i*13+4,none⟩ (.int .i64 st.c.par)).setCell ⟨b,i*13+5,none⟩ (.int .i64 st.c.r0)).setCell ⟨b,i*13+6,none⟩ (.int .i64 st.c.r1)).setCell ⟨b,i*13+7,none⟩ (.int .i64 st.c.r2)) (.slice (some ⟨b,0,none⟩) n cap) (lc.set i { c with par:=st.c.par,r0:=st.c.r0,r1:=st.c.r1,r2:=st.c.r2 }):=by
  have:=own_set1 (c:={ c with par:=st.c.par,r0:=st.c.r0,r1:=st.c.r1 }) (c':={ c with par:=st.c.par,r0:=st.c.r0,r1:=st.c.r1,r2:=st.c.r2 }) (f:=7) (i:=i) (x:=(.int .i64 st.c.r2)) n3 (by rw[List.getElem?_set_self hic]) (by decide) rfl
  rwa [List.set_set] at this
 have n5:NodesOwn w0.heap.size (((((W.setCell ⟨b,i*13+4,none⟩ (.int .i64 st.c.par)).setCell ⟨b,i*13+5,none⟩ (.int .i64 st.c.r0)).setCell ⟨b,i*13+6,none⟩ (.int .i64 st.c.r1)).setCell ⟨b,i*13+7,none⟩ (.int .i64 st.c.r2)).setCell ⟨b,i*13+8,none⟩ (.int .i64 st.c.r3)) (.slice (some ⟨b,0,none⟩) n cap) (lc.set i { c with par:=st.c.par,r0:=st.c.r0,r1:=st.c.r1,r2:=st.c.r2,r3:=st.c.r3 }):=by
  have:=own_set1 (c:={ c with par:=st.c.par,r0:=st.c.r0,r1:=st.c.r1,r2:=st.c.r2 }) (c':={ c with par:=st.c.par,r0:=st.c.r0,r1:=st.c.r1,r2:=st.c.r2,r3:=st.c.r3 }) (f:=8) (i:=i) (x:=(.int .i64 st.c.r3)) n4 (by rw[List.getElem?_set_self hic]) (by decide) rfl
  rwa [List.set_set] at this
 have n6:NodesOwn w0.heap.size ((((((W.setCell ⟨b,i*13+4,none⟩ (.int .i64 st.c.par)).setCell ⟨b,i*13+5,none⟩ (.int .i64 st.c.r0)).setCell ⟨b,i*13+6,none⟩ (.int .i64 st.c.r1)).setCell ⟨b,i*13+7,none⟩ (.int .i64 st.c.r2)).setCell ⟨b,i*13+8,none⟩ (.int .i64 st.c.r3)).setCell ⟨b,i*13+9,none⟩ (.int .i64 st.c.r4)) (.slice (some ⟨b,0,none⟩) n cap) (lc.set i { c with par:=st.c.par,r0:=st.c.r0,r1:=st.c.r1,r2:=st.c.r2,r3:=st.c.r3,r4:=st.c.r4 }):=by
  have:=own_set1 (c:={ c with par:=st.c.par,r0:=st.c.r0,r1:=st.c.r1,r2:=st.c.r2,r3:=st.c.r3 }) (c':={ c with par:=st.c.par,r0:=st.c.r0,r1:=st.c.r1,r2:=st.c.r2,r3:=st.c.r3,r4:=st.c.r4 }) (f:=9) (i:=i) (x:=(.int .i64 st.c.r4)) n5 (by rw[List.getElem?_set_self hic]) (by decide) rfl
  rwa [List.set_set] at this
 have n7:NodesOwn w0.heap.size (((((((W.setCell ⟨b,i*13+4,none⟩ (.int .i64 st.c.par)).setCell ⟨b,i*13+5,none⟩ (.int .i64 st.c.r0)).setCell ⟨b,i*13+6,none⟩ (.int .i64 st.c.r1)).setCell ⟨b,i*13+7,none⟩ (.int .i64 st.c.r2)).setCell ⟨b,i*13+8,none⟩ (.int .i64 st.c.r3)).setCell ⟨b,i*13+9,none⟩ (.int .i64 st.c.r4)).setCell ⟨b,i*13+10,none⟩ (.int .i64 st.c.r5)) (.slice (some ⟨b,0,none⟩) n cap) (lc.set i { c with par:=st.c.par,r0:=st.c.r0,r1:=st.c.r1,r2:=st.c.r2,r3:=st.c.r3,r4:=st.c.r4,r5:=st.c.r5 }):=by
  have:=own_set1 (c:={ c with par:=st.c.par,r0:=st.c.r0,r1:=st.c.r1,r2:=st.c.r2,r3:=st.c.r3,r4:=st.c.r4 }) (c':={ c with par:=st.c.par,r0:=st.c.r0,r1:=st.c.r1,r2:=st.c.r2,r3:=st.c.r3,r4:=st.c.r4,r5:=st.c.r5 }) (f:=10) (i:=i) (x:=(.int .i64 st.c.r5)) n6 (by rw[List.getElem?_set_self hic]) (by decide) rfl
  rwa [List.set_set] at this
 have n8:NodesOwn w0.heap.size ((((((((W.setCell ⟨b,i*13+4,none⟩ (.int .i64 st.c.par)).setCell ⟨b,i*13+5,none⟩ (.int .i64 st.c.r0)).setCell ⟨b,i*13+6,none⟩ (.int .i64 st.c.r1)).setCell ⟨b,i*13+7,none⟩ (.int .i64 st.c.r2)).setCell ⟨b,i*13+8,none⟩ (.int .i64 st.c.r3)).setCell ⟨b,i*13+9,none⟩ (.int .i64 st.c.r4)).setCell ⟨b,i*13+10,none⟩ (.int .i64 st.c.r5)).setCell ⟨b,i*13+11,none⟩ (.int .i64 st.c.r6)) (.slice (some ⟨b,0,none⟩) n cap) (lc.set i { c with par:=st.c.par,r0:=st.c.r0,r1:=st.c.r1,r2:=st.c.r2,r3:=st.c.r3,r4:=st.c.r4,r5:=st.c.r5,r6:=st.c.r6 }):=by
  have:=own_set1 (c:={ c with par:=st.c.par,r0:=st.c.r0,r1:=st.c.r1,r2:=st.c.r2,r3:=st.c.r3,r4:=st.c.r4,r5:=st.c.r5 }) (c':={ c with par:=st.c.par,r0:=st.c.r0,r1:=st.c.r1,r2:=st.c.r2,r3:=st.c.r3,r4:=st.c.r4,r5:=st.c.r5,r6:=st.c.r6 }) (f:=11) (i:=i) (x:=(.int .i64 st.c.r6)) n7 (by rw[List.getElem?_set_self hic]) (by decide) rfl
  rwa [List.set_set] at this
 have n9:NodesOwn w0.heap.size (((((((((W.setCell ⟨b,i*13+4,none⟩ (.int .i64 st.c.par)).setCell ⟨b,i*13+5,none⟩ (.int .i64 st.c.r0)).setCell ⟨b,i*13+6,none⟩ (.int .i64 st.c.r1)).setCell ⟨b,i*13+7,none⟩ (.int .i64 st.c.r2)).setCell ⟨b,i*13+8,none⟩ (.int .i64 st.c.r3)).setCell ⟨b,i*13+9,none⟩ (.int .i64 st.c.r4)).setCell ⟨b,i*13+10,none⟩ (.int .i64 st.c.r5)).setCell ⟨b,i*13+11,none⟩ (.int .i64 st.c.r6)).setCell ⟨b,i*13+12,none⟩ (.int .i64 st.c.r7)) (.slice (some ⟨b,0,none⟩) n cap) (lc.set i { c with par:=st.c.par,r0:=st.c.r0,r1:=st.c.r1,r2:=st.c.r2,r3:=st.c.r3,r4:=st.c.r4,r5:=st.c.r5,r6:=st.c.r6,r7:=st.c.r7 }):=by
  have:=own_set1 (c:={ c with par:=st.c.par,r0:=st.c.r0,r1:=st.c.r1,r2:=st.c.r2,r3:=st.c.r3,r4:=st.c.r4,r5:=st.c.r5,r6:=st.c.r6 }) (c':={ c with par:=st.c.par,r0:=st.c.r0,r1:=st.c.r1,r2:=st.c.r2,r3:=st.c.r3,r4:=st.c.r4,r5:=st.c.r5,r6:=st.c.r6,r7:=st.c.r7 }) (f:=12) (i:=i) (x:=(.int .i64 st.c.r7)) n8 (by rw[List.getElem?_set_self hic]) (by decide) rfl
  rwa [List.set_set] at this
 refine h.setN ho (by rw[set_other hBb];rw[set_other hBb];rw[set_other hBb];rw[set_other hBb];rw[set_other hBb];rw[set_other hBb];rw[set_other hBb];rw[set_other hBb];rw[set_other hBb]) ((((((((((h.g.set hbb _).set hbb _).set hbb _).set hbb _).set hbb _).set hbb _).set hbb _).set hbb _).set hbb _)) n9 ?_ ⟨o1.1,o1.2⟩;have:=o1.is hni;exact { this with par:=h.stp.nd.par,route:=h.stp.nd.route }
theorem chg1(w0 W:World)(B b n cap i:Nat)(lc:List NdC)(l:List Gr.Nd)(st:StC)(s:Gr.Stp)(h:Work w0 W B (.slice (some ⟨b,0,none⟩) n cap) lc l st s (i:Int))(hi:i<l.length)(hl:l.length≤100)(hkd:s.kind=1): Calls Tryz.prog 112 #[.pointer (some ⟨B,0,none⟩)] W (WkPost w0 B st s (i:Int) (chgE l i l[i] s) W):=by
 have hlen:=Rel.len h.inn;have hic:i<lc.length:=by omega
 have hsk:=h.stp.kind;obtain⟨c,hc⟩:∃c,lc[i]? = some c:=⟨_,List.getElem?_eq_getElem hic⟩;obtain⟨hni,hno⟩:=Rel.get h.inn i c l[i] hc (List.getElem?_eq_getElem hi);have hnk:=hni.kind;have hnid:=hni.id;have H:=hY h;have HC:=hY hc;have HNI:=hY hni;have HNO:=hY hno;obtain⟨hnl,hbb,hlc2,hcm,cur,hcur,_,_⟩:=OwnAt.cells h.own;have hni2:(i:Int)<(n:Int):=by omega
 have hi0:¬((i:Int)<0):=by omega
 have pBn:∀q,Pre B (W.drewN q):=fun q=>Pre.mk (heap_lt h.blk)
 have pbn:∀q,Pre b (W.drewN q):=fun q=>Pre.mk (heap_lt hcur)
 have hwr:IntKind.i64.wrap ((i:Int)+1)=(i:Int)+1:=IntWalk.i64_in _ (by omega);have pb:=Pre.mk (heap_lt hcur);have HCUR:=hY hcur;have HBB:=hY hbb;have HNL:Hid (n=lc.length∧i<lc.length∧lc.length≤100∧lc.length=l.length):=hY ⟨hnl,hic,by omega,hlen⟩;have k0:=own_cellN (j:=0) h.own hc (by decide);have k1:=own_cellN (j:=1) h.own hc (by decide);simp[encNd] at k0 k1;have x0:=cell_of (o:=0) h.blk;have x1:=cell_of (o:=1) h.blk;have x16:=cell_of (o:=16) h.blk;have pB:=Pre.mk (heap_lt h.blk);obtain⟨kd,⟨id,kind,af,nf,cf,ap,np,cp,par,r0,r1,r2,r3,r4,r5,r6,r7⟩,rs⟩:=st;simp[wkC,encSt] at x0 x1 x16;simp only at hsk;rw[hsk] at hkd;subst hkd;have he:chgE l i l[i] s=swapE l i l[i] s:=if_pos hsk;rw[he];have HSW:=hY fun W2 (g:Grew W W2)=>swap_any w0 W2 B b n cap i lc l _ s (i:Int) (h.grew g) hi
 generalize swapE l i l[i] s=rr at *;clear h hlen hic hc hni hno hcur hbb hnl hlc2 hcm he hnk hnid;go_enter Tryz.func112,Tryz.ntmps112
 go_upto_region 3 with fail
 go_quiet (fail)
 go_wp2_with (go_at_call 156;refine(HSW.o _ gw).mono ?_;rintro e w1 ⟨rfl,hw1,hg1⟩;(have HW1:=hY hw1);(have HG1:=hY hg1);clear hw1 hg1)
 go_ret;exact⟨rfl,HW1.o,HG1.o⟩
theorem chg5(w0 W:World)(B b n cap i:Nat)(lc:List NdC)(l:List Gr.Nd)(st:StC)(s:Gr.Stp)(h:Work w0 W B (.slice (some ⟨b,0,none⟩) n cap) lc l st s (i:Int))(hi:i<l.length)(hl:l.length≤100)(hkd:s.kind=5): Calls Tryz.prog 112 #[.pointer (some ⟨B,0,none⟩)] W (WkPost w0 B st s (i:Int) (chgE l i l[i] s) W):=by
 have hlen:=Rel.len h.inn;have hic:i<lc.length:=by omega
 have hsk:=h.stp.kind;obtain⟨c,hc⟩:∃c,lc[i]? = some c:=⟨_,List.getElem?_eq_getElem hic⟩;obtain⟨hni,hno⟩:=Rel.get h.inn i c l[i] hc (List.getElem?_eq_getElem hi);have hnk:=hni.kind;have hnid:=hni.id;have H:=hY h;have HC:=hY hc;have HNI:=hY hni;have HNO:=hY hno;obtain⟨hnl,hbb,hlc2,hcm,cur,hcur,_,_⟩:=OwnAt.cells h.own;have hni2:(i:Int)<(n:Int):=by omega
 have hi0:¬((i:Int)<0):=by omega
 have pBn:∀q,Pre B (W.drewN q):=fun q=>Pre.mk (heap_lt h.blk)
 have pbn:∀q,Pre b (W.drewN q):=fun q=>Pre.mk (heap_lt hcur)
 have hwr:IntKind.i64.wrap ((i:Int)+1)=(i:Int)+1:=IntWalk.i64_in _ (by omega);have pb:=Pre.mk (heap_lt hcur);have HCUR:=hY hcur;have HBB:=hY hbb;have HNL:Hid (n=lc.length∧i<lc.length∧lc.length≤100∧lc.length=l.length):=hY ⟨hnl,hic,by omega,hlen⟩;have k0:=own_cellN (j:=0) h.own hc (by decide);have k1:=own_cellN (j:=1) h.own hc (by decide);simp[encNd] at k0 k1;have x0:=cell_of (o:=0) h.blk;have x1:=cell_of (o:=1) h.blk;have x4:=cell_of (o:=4) h.blk;have x16:=cell_of (o:=16) h.blk;have pB:=Pre.mk (heap_lt h.blk);obtain⟨kd,⟨id,kind,af,nf,cf,ap,np,cp,par,r0,r1,r2,r3,r4,r5,r6,r7⟩,rs⟩:=st;simp[wkC,encSt] at x0 x1 x4 x16;simp only at hsk;rw[hsk] at hkd;subst hkd;have he:chgE l i l[i] s=if l[i].kind≠2 then (11,[]) else (0,l.set i { l[i] with frm:=s.nd.frm }):=by unfold chgE;rw[if_neg (by omega),if_neg (by omega),if_neg (by omega)]
 rw[he];clear he;by_cases h2:l[i].kind≠2
 ·rw[if_pos h2];have hne:(c.kind != 2)=true:=by rw[bne_iff_ne,←hnk];exact h2
  clear h hlen hic hc hni hno hcur hbb hnl hlc2 hcm h2 hnk hnid;go_enter Tryz.func112,Tryz.ntmps112
  go_upto_region 3 with fail
  go_quiet (fail)
  go_wp2;go_ret;exact⟨rfl,fun q=>absurd q (by decide),H.o.g.trans gw⟩
 ·rw[if_neg h2];have hne:(c.kind != 2)=false:=by rw[←hnk];simpa using h2
  have f2:=frozen_of (o:=i*13+2) hcur;have k2:=own_cellN (j:=2) h.own hc (by decide);simp[encNd] at k2;have hw:=fun W2 (q:Grew W W2)=>(h.grew q).set5 hc hi
  simp only at hw;have HW:=hY hw;clear h hlen hic hc hni hno hcur hbb hnl hlc2 hcm h2 hnk hnid hw;go_enter Tryz.func112,Tryz.ntmps112
  go_upto_region 3 with fail
  go_quiet (fail)
  go_wp2;go_ret;refine⟨rfl,?_,?_⟩
  ·intro _;exact⟨_,_,HW.o _ gw⟩
  ·exact(HW.o _ gw).g
end Go.Proofs.YtipgfjihdglocaaGreat
