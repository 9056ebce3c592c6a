import Derived.Test.YtgebkpgilgppgaaGreatMw45
import Derived.Test.YtgebkpgilgppgaaGreatMw9
import Derived.Test.YtgebkpgilgppgaaGreatMw43
import Derived.Test.YtgebkpgilgppgaaGreatMw46
import Derived.Test.YtgebkpgilgppgaaGreatMw47
import Derived.Test.YtgebkpgilgppgaaGreatMw44
set_option linter.unusedSimpArgs false
set_option linter.unusedVariables false
set_option maxRecDepth 100000
set_option maxHeartbeats 64000000
namespace Go.Proofs.YtgebkpgilgppgaaGreat
open Go.RowKit Ga
noncomputable def upN(l:List Gr.Nd)(k:Nat): List Gr.Nd:=(List.range k).filterMap fun(i:Nat)=>Gr.nodeOf l (i:Int)
theorem A0j(l:List Gr.Nd)(k:Nat): upN l (k+1)=upN l k++(Gr.nodeOf l (k:Int)).toList:=by
 unfold upN;rw[List.range_succ,List.filterMap_append]
 congr 1
theorem A2M(l:List Gr.Nd)(k:Nat): (upN l k).length≤k:=by
 unfold upN;refine Nat.le_trans (List.length_filterMap_le _ _) ?_;rw[List.length_range];exact Nat.le_refl _
theorem TS{w:World}{a:Option Addr}{n c:Nat}{l:List BM}(h:AX 13 Ae w (.slice a n c) l){i:Nat}(hi:i<l.length): ∃b off,a=some ⟨b,off,none⟩∧Ad b w∧w.cell? ⟨b,off+i*13,none⟩=some (.int .i64 l[i].id)∧w.cell? ⟨b,off+i*13+1,none⟩=some (.int .i64 l[i].kind)∧w.cell? ⟨b,off+i*13+2,none⟩=some (.slice l[i].af l[i].nf l[i].cf)∧w.cell? ⟨b,off+i*13+3,none⟩=some (.slice l[i].ap l[i].np l[i].cp)∧w.cell? ⟨b,off+i*13+4,none⟩=some (.int .i64 l[i].par)∧w.cell? ⟨b,off+i*13+5,none⟩=some (.int .i64 l[i].r0)∧w.cell? ⟨b,off+i*13+6,none⟩=some (.int .i64 l[i].r1)∧w.cell? ⟨b,off+i*13+7,none⟩=some (.int .i64 l[i].r2)∧w.cell? ⟨b,off+i*13+8,none⟩=some (.int .i64 l[i].r3)∧w.cell? ⟨b,off+i*13+9,none⟩=some (.int .i64 l[i].r4)∧w.cell? ⟨b,off+i*13+10,none⟩=some (.int .i64 l[i].r5)∧w.cell? ⟨b,off+i*13+11,none⟩=some (.int .i64 l[i].r6)∧w.cell? ⟨b,off+i*13+12,none⟩=some (.int .i64 l[i].r7):=by
 obtain⟨a',cap',e,-,hx⟩:=h;injection e with e1 _ _
 subst e1;obtain⟨q,off,e,hc⟩:=hx (by intro e;subst e;simp at hi);have hj:=fun j u=>hc i l[i] (List.getElem?_eq_getElem hi) j u
 have h0:=hj 0 _ rfl;have h1:=hj 1 _ rfl;have h2:=hj 2 _ rfl;have h3:=hj 3 _ rfl;have h4:=hj 4 _ rfl;have h5:=hj 5 _ rfl;have h6:=hj 6 _ rfl;have h7:=hj 7 _ rfl;have h8:=hj 8 _ rfl;have h9:=hj 9 _ rfl;have h10:=hj 10 _ rfl;have h11:=hj 11 _ rfl;have h12:=hj 12 _ rfl;simp only[Nat.add_zero] at h0 h1 h2 h3 h4 h5 h6 h7 h8 h9 h10 h11 h12;exact⟨q,off,e,Ad.ofCell h0,h0,h1,h2,h3,h4,h5,h6,h7,h8,h9,h10,h11,h12⟩
theorem BL.at{α β:Type}{R:α→β→Prop}{xs:List α}{ys:List β}(h:BL R xs ys){i:Nat}(hi:i<xs.length)(hj:i<ys.length): R xs[i] ys[i]:=BL.get h i _ _ (List.getElem?_eq_getElem hi) (List.getElem?_eq_getElem hj)
theorem A0k(w W2 W:World)(av:Option Addr)(cv:Nat)(g:List Gr.Nd)(ce:Option Addr)(cE:Nat)(cl:Option Addr)(cL:Nat)(cp:Option Addr)(cP:Nat)(wh:Wh)(x b P:Nat)(a5:Option Addr)(c5:Nat)(a6:Option Addr)(c6:Nat)(lc:List CV)(Q:Exit→Act→World→Prop)(a0:Act)(B:Nat)(c':Dy)(code:Int)(t N:Nat)(f:CR)(v25:Value)(l25:List Gr.Nd)(vP:Value)(lcP:List Bw)
  (hA:JZ w av cv g ce cE cl cL cp cP wh) (hB:Ck w W2 av cv g ce cE cl cL cp cP wh x b P a5 c5 a6 c6 lc.length (Cq lc)) (hC:DF W2 (Gr.normG g) (Cq lc) (ET (Gr.normG g) wh)) (hl:lc.length=(Af (Gr.normG g)).length) (hl9:lc.length≤24) (hG:AA W2 W) (hF:Js w x P av cv g a0) (h18:a0.tmps.getD 18 undef = .pointer (some ⟨B,0,none⟩)) (h19:a0.tmps.getD 19 undef = .int .i64 code) (h20:a0.tmps.getD 20 undef = .pointer (some ⟨t,0,none⟩)) (h25:a0.tmps.getD 25 undef=v25) (h26:a0.tmps.getD 26 undef = .pointer (some ⟨N,0,none⟩)) (hb:W2.heap[B]? = some (.cells (JK c').toArray 42)) (hres:Kc W2 g wh c' code) (hok:CG (EH (Ak g wh 8))=true) (hT:RTabAt W t f) (hnu:BC w W v25 l25) (hw:Want W2 W W N #[.int .i64 9,.int .i64 (if wh.plan=[] then 0 else 1),.slice none 0 0,.slice none 0 0,.slice none 0 0,.slice none 0 0,vP]) (ho:OwnAt W2.heap.size 66 15 CS W vP lcP) (hNt:N≠t) (hNW:N<W.heap.size)
  (hret:∀a' w',Ow w a' w'→Q .ret a' w')
  (hnext:∀a' w' vG lcG,AA W2 w'→Js w x P av cv g a'→a'.tmps.getD 18 undef = .pointer (some ⟨B,0,none⟩)→a'.tmps.getD 19 undef = .int .i64 code→a'.tmps.getD 20 undef = .pointer (some ⟨t,0,none⟩)→a'.tmps.getD 26 undef = .pointer (some ⟨N,0,none⟩)→RTabAt w' t f→Want W2 w' w' N #[.int .i64 9,.int .i64 (if wh.plan=[] then 0 else 1),.slice none 0 0,vG,.slice none 0 0,.slice none 0 0,vP]→OwnAt W2.heap.size 64 13 Ae w' vG lcG→BL (A9 w) lcG (Gr.normG l25)→OwnAt W2.heap.size 66 15 CS w' vP lcP→Code.wp Tryz.prog (FO 58) Q a' w') :
  Code.wp Tryz.prog (FO 52) Q a0 W:=by
 obtain⟨hfr,h0,h4,h7,h9⟩:=hF;obtain⟨u,hu⟩:∃u:Nat→Value,u=fun i=>a0.tmps.getD i undef:=⟨_,rfl⟩
 rw[←hu] at hfr;have u0:u 0=_:=(congrFun hu 0).trans h0;have u4:u 4=_:=(congrFun hu 4).trans h4;have u7:u 7=_:=(congrFun hu 7).trans h7;have u9:u 9=_:=(congrFun hu 9).trans h9;have u18:u 18=_:=(congrFun hu 18).trans h18;have u19:u 19=_:=(congrFun hu 19).trans h19;have u20:u 20=_:=(congrFun hu 20).trans h20;have u25:u 25=_:=(congrFun hu 25).trans h25;have u26:u 26=_:=(congrFun hu 26).trans h26;clear hu h0 h4 h7 h9 h18 h19 h20 h25 h26;subst hfr
 conv=>arg 2;whnf
 unfold Ii;rw[u0,u4,u7,u9,u18,u19,u20,u25,u26];clear u0 u4 u7 u9 u18 u19 u20 u25 u26;have HRES:=hY hres;have HOK:=hY hok;have HBB:=hY hb;clear hres hok hb;have HA:=hY hA;have HB:=hY (hB.grew hG);have HB2:=hY hB;have HC:=hY hC;have HL:=hY hl;have HG:=hY hG;have HRET:=hY hret;have HNX:=hY hnext;clear hA hB hC hret hnext hG hl;have HT:=hY hT;have HNU:=hY hnu;have HW0:=hY hw;have HO:=hY ho;have HNT:=hY hNt;obtain⟨pl,hpl⟩:∃pl:Int,(if wh.plan=[] then 0 else 1)=pl:=⟨_,rfl⟩;rw[hpl] at HW0 HNX;obtain⟨a25,c25,rfl,-,-⟩:=(hnu.at HB.o.gr).openC;clear hT hnu hw ho hNt hpl;go_wp2
 go_loopg [30] 8 (fun gg s30 wr=>∃(k:Nat) (vG:Value) (lcG:List BM),k≤8∧8-k≤gg∧s30 = .int .i64 (k:Int)∧Hid (Want W2 W wr N #[.int .i64 9,.int .i64 pl,.slice none 0 0,vG,.slice none 0 0,.slice none 0 0,vP])∧Hid (Ep W2 W 64 13 Ae wr vG lcG)∧Hid (BL (A9 w) lcG (upN l25 k))∧Hid (OwnAt W2.heap.size 66 15 CS wr vP lcP))
 case atStart=>exact⟨0,_,[],by omega,by omega,rfl,hY (HW0.o.grew gw),hY Ep.nil,hY trivial,hY (OwnAt.grew HO.o gw)⟩
 case round =>
  obtain⟨k,vG,lcG,hk,hgg,rfl,HW,HOG,HR,HP⟩:=hrel;rename World=>wa;obtain⟨a7,c7s,rfl⟩:=(OwnAt.rows HOG.o.1 AZ).len;by_cases hlt:k<8
  ·have hnu:=Kb HNU.o HW.o.k HW0.o.b;have hww:AA w wa:=HB2.o.gr.trans HW.o.g;have HFI:=hY fun W3 (q:AA wa W3)=>BB _ l25 (k:Int) W3 ((hnu.at hww).grew q)
   have HUS:=hY (A0j l25 k)
   cases hf:Gr.find l25 (k:Int) with
   |none =>
    have hno:Gr.nodeOf l25 (k:Int)=none:=by unfold Gr.nodeOf;rw[hf];rfl
    have HI:=hY (DC hf);have HNS:Hid (upN l25 (k+1)=upN l25 k):=hY (by rw[HUS.o,hno];exact List.append_nil _);clear hf hno hnu hww
    go_wp2_with (go_at_call 16;refine(HFI.o _ gw).mono ?_;rintro e w1 ⟨rfl,hw1⟩;obtain rfl:=hw1.symm;rw[HI.o])
    go_roundg (8-(k+1))
    case measure=>omega
    case rel=>exact⟨k+1,_,lcG,by omega,by omega,by go_num,hY (HW.o.grew gw),hY (HOG.o.grew gw),hY (by rw[HNS.o];exact HR.o),hY (OwnAt.grew HP.o gw)⟩
   |some fi =>
    obtain⟨hfi,hil⟩:=Ct hf;have hno:Gr.nodeOf l25 (k:Int)=some l25[fi]:=by unfold Gr.nodeOf;rw[hf];exact List.getElem?_eq_getElem hil
    have HI:=hY hfi;obtain⟨lc,hrow,hrel5⟩:=hnu;have hll:=BL.len hrel5;have hilc:fi<lc.length:=by rw[hll];exact hil
    have HNI:=hY (BL.at hrel5 hilc hil);have HNS:Hid (upN l25 (k+1)=upN l25 k++[l25[fi]]):=hY (by rw[HUS.o,hno];rfl);obtain⟨bq,off,rfl,hbq,c0,c1,c2,c3,c4,c5,c6,c7,c8,c9,c10,c11,c12⟩:=TS hrow hilc;have hlg:=BL.len HR.o;have hul:=A2M l25 k;have hlc8:lcG.length≤8:=by omega
    have m3:wa.cell? ⟨N,3,none⟩=some (.slice a7 lcG.length c7s):=(cell_of HW.o.b).trans rfl;have pm3:=Ad.mk (AB HW.o.b);generalize lc[fi]=c at *;obtain⟨id,kind,af,nf,cf,apr,np,cpr,par,r0,r1,r2,r3,r4,r5,r6,r7⟩:=c;simp only at c0 c1 c2 c3 c4 c5 c6 c7 c8 c9 c10 c11 c12;clear hrow hrel5 hf hfi hno hlg hul hilc hll hww
    go_upto_region 57 with (go_at_call 16;refine(HFI.o _ gw).mono ?_;rintro e w1 ⟨rfl,hw1⟩;obtain rfl:=hw1.symm;rw[HI.o])
    refine wp_region_noPanic ?_
    go_region_law (refine JL (w0:=W2) (v:=.slice a7 lcG.length c7s) rfl (.tmp 231) (.tmp 236) 22 _ _ _ _ [⟨id,kind,af,nf,cf,apr,np,cpr,par,r0,r1,r2,r3,r4,r5,r6,r7⟩] rfl Tryz.underlying22 Su rfl (by decide) AZ La rfl (OwnAt.grew HOG.o.1 gw) (HW.o.g.trans gw) rfl (XB _ _ _ _ rfl (by first|rfl|simp[go_sem])) (by simp;omega) (by decide) (by simp) ?_;intro v8 W8 hA;(obtain⟨a8,c8',hv8⟩:=(OwnAt.rows hA.2.1 AZ).len);(obtain⟨n8,hn8⟩:∃n8,(lcG++([⟨id,kind,af,nf,cf,apr,np,cpr,par,r0,r1,r2,r3,r4,r5,r6,r7⟩]:List BM)).length=n8:=⟨_,rfl⟩);(rw[hn8] at hv8);(subst hv8);(clear hn8);(have hM8:=Cn (OwnAt.grew HOG.o.1 gw) (AC gw HW.o.b) (by decide) hA);(obtain⟨u8,hu8⟩:∃u,W8.cell? ⟨N,3,none⟩=some u:=⟨_,(cell_of hM8).trans rfl⟩);(have f8:=AJ (o:=3) hM8);(have p8:=Ad.mk (AB hM8));(have HA8:=hY hA);clear hA hM8)
    all_goals
     refine NoPanic.normal ?_;go_wp2
     go_roundg (8-(k+1))
     case measure=>omega
     case rel =>
      obtain⟨Wq,hA9,hWq⟩:∃Wq,Ap W2 64 13 Ae Wq (.slice a7 lcG.length c7s) (lcG++[⟨id,kind,af,nf,cf,apr,np,cpr,par,r0,r1,r2,r3,r4,r5,r6,r7⟩]) (.slice a8 n8 c8') W8∧AA wa Wq:=⟨_,HA8.o,gw⟩;obtain⟨j1,j2⟩:=Want.add (o:=3) (HW.o.grew hWq) (HOG.o.grew hWq) (by decide) (Nat.le_trans HW.o.k.1 (AA.le hWq)) hA9;exact⟨k+1,_,_,by omega,by omega,by go_num,hY j1,hY j2,hY (by rw[HNS.o];exact BL.snoc HR.o HNI.o),hY (Want.other (HW.o.grew hWq) (HOG.o.grew hWq) hA9 (OwnAt.grew HP.o hWq) (by decide) (by decide))⟩
  ·obtain rfl:k=8:=by omega
   have hgw:=HW.o.g
   go_upto_if 222 with fail
   iterate 4 go_step
   refine HNX.o _ _ (.slice a7 lcG.length c7s) lcG (HW.o.g.trans gw) ?_ ?_ ?_ ?_ ?_ ?_ ?_ (OwnAt.grew HOG.o.1 gw) HR.o (OwnAt.grew HP.o gw)
   ·exact⟨rfl,rfl,rfl,rfl,rfl⟩
   ·rfl
   ·rfl
   ·rfl
   ·rfl
   ·exact RTabAt.grew (RTabAt.same HT.o (HW.o.k.2 t HT.o.lt (fun e=>HNT.o e.symm))) gw
   ·exact⟨HW.o.g.trans gw,HW.o.lo,A7.ofGrew (AA.refl _),AC gw HW.o.b⟩
theorem OwnAt.keepN{α:Type}{base N:Nat}{e t:TypeId}{k:Nat}{enc:α→List Value}{W W':World}{v:Value}{l:List α}{cs:Array Value}(h:OwnAt base e k enc W v l)(hk:A7 N W W')(hb:W.heap[N]? = some (.cells cs t))(hne:t≠e): OwnAt base e k enc W' v l :=
 OwnAt.same h fun q hq=>by
  obtain⟨-,c,hc⟩:=OwnAt.block h hq;exact hk.2 q (AB hc) fun e=>OwnAt.other h hb hne (by rw[←e];exact hq)
theorem DZ.keepN{base N:Nat}{W W':World}{v:Value}{lc:List CV}{L:List (Ca×Fq)}{cs:Array Value}(h:DZ base W v lc L)(hk:A7 N W W')(hb:W.heap[N]? = some (.cells cs 42)): DZ base W' v lc L:=by
 refine⟨OwnAt.keepN h.o hk hb (by decide),BL.mono (fun c y q=>⟨q.1,q.2.1,q.2.2.1,?_⟩) h.r⟩;obtain⟨q1,⟨b1,q2⟩,⟨b2,q3⟩,q4⟩:=q.2.2.2;exact⟨q1,⟨b1,OwnAt.keepN q2 hk hb (by decide)⟩,⟨b2,OwnAt.keepN q3 hk hb (by decide)⟩,q4⟩
theorem A2N(w W2 W:World)(av:Option Addr)(cv:Nat)(g:List Gr.Nd)(ce:Option Addr)(cE:Nat)(cl:Option Addr)(cL:Nat)(cp:Option Addr)(cP:Nat)(wh:Wh)(x b P:Nat)(a5:Option Addr)(c5:Nat)(a6:Option Addr)(c6:Nat)(lc:List CV)(Q:Exit→Act→World→Prop)(a0:Act)(B:Nat)(c':Dy)(code:Int)(t N:Nat)(f:CR)(vG:Value)(lcG:List BM)(vP:Value)(lcP:List Bw)
  (hA:JZ w av cv g ce cE cl cL cp cP wh) (hB:Ck w W2 av cv g ce cE cl cL cp cP wh x b P a5 c5 a6 c6 lc.length (Cq lc)) (hC:DF W2 (Gr.normG g) (Cq lc) (ET (Gr.normG g) wh)) (hl:lc.length=(Af (Gr.normG g)).length) (hl9:lc.length≤24) (hG:AA W2 W) (hF:Js w x P av cv g a0) (h18:a0.tmps.getD 18 undef = .pointer (some ⟨B,0,none⟩)) (h19:a0.tmps.getD 19 undef = .int .i64 code) (h20:a0.tmps.getD 20 undef = .pointer (some ⟨t,0,none⟩)) (h26:a0.tmps.getD 26 undef = .pointer (some ⟨N,0,none⟩)) (hb:W2.heap[B]? = some (.cells (JK c').toArray 42)) (hres:Kc W2 g wh c' code) (hok:CG (EH (Ak g wh 8))=true) (hT:RTabAt W t f) (hw:Want W2 W W N #[.int .i64 9,.int .i64 (if wh.plan=[] then 0 else 1),.slice none 0 0,vG,.slice none 0 0,.slice none 0 0,vP]) (hvg:OwnAt W2.heap.size 64 13 Ae W vG lcG) (ho:OwnAt W2.heap.size 66 15 CS W vP lcP) (hNt:N≠t)
  (hret:∀a' w',Ow w a' w'→Q .ret a' w')
  (hnext:∀a' w' vO vX,AA W2 w'→Js w x P av cv g a'→a'.tmps.getD 18 undef = .pointer (some ⟨B,0,none⟩)→a'.tmps.getD 19 undef = .int .i64 code→a'.tmps.getD 20 undef = .pointer (some ⟨t,0,none⟩)→a'.tmps.getD 26 undef = .pointer (some ⟨N,0,none⟩)→RTabAt w' t f→w'.heap[N]? = some (.cells #[.int .i64 9,.int .i64 (if wh.plan=[] then 0 else 1),vO,vG,.slice none 0 0,vX,vP] 42)→OwnAt W2.heap.size 3 1 Cx w' vO (EG (Ak g wh 8))→OwnAt W2.heap.size 92 5 Dp w' vX (Fh (Ak g wh 8))→OwnAt W2.heap.size 64 13 Ae w' vG lcG→OwnAt W2.heap.size 66 15 CS w' vP lcP→Code.wp Tryz.prog (FO 65) Q a' w') :
  Code.wp Tryz.prog (FO 58) Q a0 W:=by
 obtain⟨hfr,h0,h4,h7,h9⟩:=hF;obtain⟨u,hu⟩:∃u:Nat→Value,u=fun i=>a0.tmps.getD i undef:=⟨_,rfl⟩
 rw[←hu] at hfr;have u0:u 0=_:=(congrFun hu 0).trans h0;have u4:u 4=_:=(congrFun hu 4).trans h4;have u7:u 7=_:=(congrFun hu 7).trans h7;have u9:u 9=_:=(congrFun hu 9).trans h9;have u18:u 18=_:=(congrFun hu 18).trans h18;have u19:u 19=_:=(congrFun hu 19).trans h19;have u20:u 20=_:=(congrFun hu 20).trans h20;have u26:u 26=_:=(congrFun hu 26).trans h26;clear hu h0 h4 h7 h9 h18 h19 h20 h26;subst hfr
 conv=>arg 2;whnf
 unfold Ii;rw[u0,u4,u7,u9,u18,u19,u20,u26];clear u0 u4 u7 u9 u18 u19 u20 u26;have HRES:=hY hres;have HOK:=hY hok;have HBB:=hY hb;clear hres hok hb;have HA:=hY hA;have HB:=hY (hB.grew hG);have HB2:=hY hB;have HC:=hY hC;have HL:=hY hl;have HG:=hY hG;have HRET:=hY hret;have HNX:=hY hnext;clear hA hB hC hret hnext hG hl;have HT:=hY hT;have HW0:=hY hw;have HVG:=hY hvg;have HO:=hY ho;have HNT:=hY hNt;obtain⟨pl,hpl⟩:∃pl:Int,(if wh.plan=[] then 0 else 1)=pl:=⟨_,rfl⟩;rw[hpl] at HW0 HNX;clear hT hw hvg ho hNt hpl;have HAC:=hY fun W3 (q:AA W W3)=>OD av cv g ce cE cl cL cp cP wh W3 (HA.o.hv.grew (HB.o.gr.trans q)) (HA.o.whi.grew (HB.o.gr.trans q)) HA.o.r HA.o.el HA.o.ll
 have hul:=EX wh (fun n hn=>((DN HA.o.r) n hn).1.2) 8;have HUL:=hY hul;clear hul;generalize hL8:Ak g wh 8=L8 at *;clear hL8;have b0:=cell_of (o:=0) (W:=W) HB.o.wb;have b1:=cell_of (o:=1) (W:=W) HB.o.wb;have b2:=cell_of (o:=2) (W:=W) HB.o.wb;have b3:=cell_of (o:=3) (W:=W) HB.o.wb;have b4:=cell_of (o:=4) (W:=W) HB.o.wb;have b5:=cell_of (o:=5) (W:=W) HB.o.wb;simp at b0 b1 b2 b3 b4 b5;have pbw:=Ad.mk (W:=W) (AB HB.o.wb)
 go_wp2_with (go_at_call 10;((with_reducible refine Calls.mono (HAC.o _ ?_) ?_));(focus(exact gw));rintro e1 w1 ⟨aL,cL2,lc2,rfl,hS⟩;obtain⟨R4,n4,rfl⟩:=hS.g;(have HS:=hY hS.own);clear hS)
 have hlc2:=BL.len HS.o.r;have HLC2:=hY hlc2;have hlc24:lc2.length≤24:=by have:=HUL.o;omega
 obtain⟨W9,hW9⟩:∃W9,W9=W.more R4 n4:=⟨_,rfl⟩;have HG9:Hid (AA W W9):=hY (by rw[hW9];exact gw);rw[←hW9] at HS;rw[←hW9];obtain⟨base,hbase⟩:∃base,base=W.heap.size:=⟨_,rfl⟩;rw[←hbase] at HS;clear hlc2 hW9 b0 b1 b2 b3 b4 b5 pbw HAC hbase;have HW9:Hid (Want W2 W9 W9 N #[.int .i64 9,.int .i64 pl,.slice none 0 0,vG,.slice none 0 0,.slice none 0 0,vP]):=hY ⟨HW0.o.g.trans HG9.o,HW0.o.lo,A7.ofGrew (AA.refl _),AC HG9.o HW0.o.b⟩
 go_loopg [243] lc2.length (fun gg s243 wr=>∃(k:Nat) (vO vX:Value),k≤lc2.length∧lc2.length-k≤gg∧s243 = .int .i64 (k:Int)∧Hid (Want W2 W9 wr N #[.int .i64 9,.int .i64 pl,vO,vG,.slice none 0 0,vX,vP])∧Hid (Ep W2 W9 3 1 Cx wr vO (EG (L8.take k)))∧Hid (Ep W2 W9 92 5 Dp wr vX (Fh (L8.take k))))
 case atStart=>exact⟨0,_,_,by omega,by omega,rfl,hY (HW9.o.grew gw),hY Ep.nil,hY Ep.nil⟩
 case round =>
  obtain⟨k,vO,vX,hk,hgg,rfl,HW,HOO,HOX⟩:=hrel;rename World=>wa;obtain⟨aO,cO,rfl⟩:=(OwnAt.rows HOO.o.1 Ar).len;obtain⟨aX,cX,rfl⟩:=(OwnAt.rows HOX.o.1 Bt).len;by_cases hlt:k<lc2.length
  ·have hk8:k<L8.length:=by rw[←HLC2.o];exact hlt
   have hac:=HS.o.keepN HW.o.k HW9.o.b;obtain⟨qa,eqa,-,pa,x0,x1,x2,x3,x4,x5⟩:=E8 hac.o hlt;subst eqa;obtain⟨r0,-,-,r3⟩:=BL.get hac.r k lc2[k] L8[k] (List.getElem?_eq_getElem hlt) (List.getElem?_eq_getElem hk8);have HTO:=hY (Ve hk8);have HTX:=hY (Yg hk8);obtain⟨ro,-,⟨bL,rl⟩,-,rl9⟩:=r3
   have hol:(EG (L8.take k)).length≤24:=by
    unfold EG;refine Nat.le_trans (DI (n:=1) fun y hy=>?_) (by rw[List.length_take];omega);split<;>simp
   have hxl:(Fh (L8.take k)).length≤24*100:=by
    unfold Fh;refine Nat.le_trans (DI (n:=100) fun y hy=>?_) (Nat.mul_le_mul (by rw[List.length_take];omega) (Nat.le_refl _));obtain⟨i,hi,rfl⟩:=List.mem_iff_getElem.1 (List.mem_of_mem_take hy);have hi2:i<lc2.length:=by rw[HLC2.o];exact hi
    exact(BL.get HS.o.r i lc2[i] L8[i] (List.getElem?_eq_getElem hi2) (List.getElem?_eq_getElem hi)).2.2.2.2.2.2.2
   obtain⟨l9,hl9⟩:∃l9,L8[k].2.lines=l9:=⟨_,rfl⟩;rw[hl9] at rl rl9 HTX;rw[←r0,←ro] at HTO;generalize lc2[k]=y at *;obtain⟨d0,d1,d2,d3,d4,d5,d6,d7,d8,d9⟩:=y;simp only at x0 x1 x2 x3 x4 x5 rl HTO;obtain⟨aE,cEE,eE⟩:=(OwnAt.rows rl Bt).len;cases eE;have HLN:=hY rl;clear hac r0 ro rl hl9 hk8;obtain⟨q8,hq8⟩:∃q8,EG (L8.take k)=q8:=⟨_,rfl⟩;obtain⟨q9,hq9⟩:∃q9,Fh (L8.take k)=q9:=⟨_,rfl⟩;rw[hq8] at hol HOO HTO HW;rw[hq9] at hxl HOX HTX HW;clear hq8 hq9;have m2:wa.cell? ⟨N,2,none⟩=some (.slice aO q8.length cO):=(cell_of HW.o.b).trans rfl;have m5:wa.cell? ⟨N,5,none⟩=some (.slice aX q9.length cX):=(cell_of HW.o.b).trans rfl;have pm:=Ad.mk (AB HW.o.b);by_cases hz:d0=0
   case neg =>
    rw[if_neg hz,List.append_nil] at HTO;have hne:(d0==0)=false:=by simpa using hz
    have HWZ:=HW;have HOOZ:=HOO;have HOXZ:=HOX;have HLNZ:=HLN;clear hz
    go_wp2_with (at_builtin;go_loud (refine Fx (w0:=W2) rfl (.tmp 258) (.tmp 260) 24 _ _ rfl Tryz.underlying24 Ms rfl (by decide) Bt JF rfl (OwnAt.grew HOXZ.o.1 gw) (HWZ.o.g.trans gw) rfl (OwnAt.grew HLNZ.o gw) (by omega) (by decide) ?_);go_loud (intro v9 W9x hA;(obtain⟨a9,c9',hv9⟩:=(OwnAt.rows hA.2.1 Bt).len);(obtain⟨n9,hn9⟩:∃n9,(q9++l9).length=n9:=⟨_,rfl⟩);(rw[hn9] at hv9);(subst hv9);(clear hn9);(have hM9:=Cn (OwnAt.grew HOXZ.o.1 gw) (AC gw HWZ.o.b) (by decide) hA);(obtain⟨u9,hu9⟩:∃u,W9x.cell? ⟨N,5,none⟩=some u:=⟨_,(cell_of hM9).trans rfl⟩);(have f9:=AJ (o:=5) hM9);(have p9:=Ad.mk (AB hM9));(have HA9:=hY hA);clear hA hM9))
    go_roundg (lc2.length-(k+1))
    case measure=>omega
    case rel =>
     obtain⟨Wq,hA9,hWq⟩:∃Wq,Ap W2 92 5 Dp Wq (.slice aX q9.length cX) (q9++l9) (.slice a9 n9 c9') W9x∧AA wa Wq:=⟨_,HA9.o,gw⟩;obtain⟨j1,j2⟩:=Want.add (o:=5) (HWZ.o.grew hWq) (HOXZ.o.grew hWq) (by decide) (Nat.le_trans HWZ.o.k.1 (AA.le hWq)) hA9;have j3:=Ep.other (o:=5) (HOOZ.o.grew hWq) (HWZ.o.grew hWq) (HOXZ.o.grew hWq) hA9 (by decide) (by decide);exact⟨k+1,_,_,by omega,by omega,by go_num,hY j1,hY (by rw[HTO.o];exact j3),hY (by rw[HTX.o];exact j2)⟩
   subst hz;rw[if_pos rfl] at HTO
   go_upto_region 63 with (at_builtin;go_loud (refine Am (w0:=W2) rfl (.tmp 251) (.tmp 254) 40 _ _ _ _ [d9] rfl Tryz.underlying40 Mt rfl (by decide) Ar Ic rfl (OwnAt.grew HOO.o.1 gw) (HW.o.g.trans gw) rfl (NN _ _ _ _ rfl (by first|rfl|simp[go_sem])) (by simp;omega) (by decide) (by simp) ?_);go_loud (intro v8 W8 hA;(obtain⟨a8,c8,hv8⟩:=(OwnAt.rows hA.2.1 Ar).len);(obtain⟨n8,hn8⟩:∃n8,(q8++([d9]:List Int)).length=n8:=⟨_,rfl⟩);(rw[hn8] at hv8);(subst hv8);(clear hn8);(have hM8:=Cn (OwnAt.grew HOO.o.1 gw) (AC gw HW.o.b) (by decide) hA);(obtain⟨u8,hu8⟩:∃u,W8.cell? ⟨N,2,none⟩=some u:=⟨_,(cell_of hM8).trans rfl⟩);(have f8:=AJ (o:=2) hM8);(have p8:=Ad.mk (AB hM8));(have hT8:=Cn (B:=wa.heap.size) (cs:=#[.int .i64 0,.int .i64 d1,.int .i64 d2,.slice d3 d4 d5,.slice d6 l9.length d8,.int .i64 d9]) (tb:=33) (OwnAt.grew HOO.o.1 gw) (AC gw (AO wa (.cells #[.int .i64 0,.int .i64 d1,.int .i64 d2,.slice d3 d4 d5,.slice d6 l9.length d8,.int .i64 d9] 33) _ rfl)) (by decide) hA);(have HT8:=hY hT8);(have HA8:=hY hA);clear hA hM8 hT8))
   obtain⟨Wq,hA9,hWq⟩:∃Wq,Ap W2 3 1 Cx Wq (.slice aO q8.length cO) (q8++[d9]) (.slice a8 n8 c8) W8∧AA wa Wq:=⟨_,HA8.o,gw⟩;obtain⟨j1,j2⟩:=Want.add (o:=2) (HW.o.grew hWq) (HOO.o.grew hWq) (by decide) (Nat.le_trans HW.o.k.1 (AA.le hWq)) hA9;have j3:=Ep.other (o:=2) (HOX.o.grew hWq) (HW.o.grew hWq) (HOO.o.grew hWq) hA9 (by decide) (by decide);have j4:=Want.other (o:=2) (HW.o.grew hWq) (HOO.o.grew hWq) hA9 (OwnAt.grew HLN.o hWq) (by decide) (by decide);have hNa:N≠wa.heap.size:=Nat.ne_of_lt (AB HW.o.b);have j5:(W8.setCell ⟨N,2,none⟩ (.slice a8 n8 c8)).heap[wa.heap.size]? = some (.cells #[.int .i64 0,.int .i64 d1,.int .i64 d2,.slice d3 d4 d5,.slice d6 l9.length d8,.int .i64 d9] 33):=(AQ hNa).trans HT8.o;obtain⟨Wz,hWz⟩:∃Wz,Wz=W8.setCell ⟨N,2,none⟩ (.slice a8 n8 c8):=⟨_,rfl⟩;rw[←hWz] at j1 j2 j3 j4 j5 ⊢;have y4:Wz.cell? ⟨wa.heap.size,4,none⟩=some (.slice d6 l9.length d8):=(cell_of j5).trans rfl;have py:=Ad.mk (AB j5);have n5:Wz.cell? ⟨N,5,none⟩=some (.slice aX q9.length cX):=(cell_of j1.b).trans rfl;have pn:=Ad.mk (AB j1.b);have HWZ:=hY j1;have HOOZ:=hY j2;have HOXZ:=hY j3;have HLNZ:=hY j4;clear hA9 hWq j1 j2 j3 j4 j5 hWz hNa x0 x1 x2 x3 x4 x5 m2 m5 pm pa p8 u8 hu8 f8
   go_wp2_with (at_builtin;go_loud (refine Fx (w0:=W2) rfl (.tmp 258) (.tmp 260) 24 _ _ rfl Tryz.underlying24 Ms rfl (by decide) Bt JF rfl (OwnAt.grew HOXZ.o.1 gw) (HWZ.o.g.trans gw) rfl (OwnAt.grew HLNZ.o gw) (by omega) (by decide) ?_);go_loud (intro v9 W9x hA;(obtain⟨a9,c9',hv9⟩:=(OwnAt.rows hA.2.1 Bt).len);(obtain⟨n9,hn9⟩:∃n9,(q9++l9).length=n9:=⟨_,rfl⟩);(rw[hn9] at hv9);(subst hv9);(clear hn9);(have hM9:=Cn (OwnAt.grew HOXZ.o.1 gw) (AC gw HWZ.o.b) (by decide) hA);(obtain⟨u9,hu9⟩:∃u,W9x.cell? ⟨N,5,none⟩=some u:=⟨_,(cell_of hM9).trans rfl⟩);(have f9:=AJ (o:=5) hM9);(have p9:=Ad.mk (AB hM9));(have HA9:=hY hA);clear hA hM9))
   go_roundg (lc2.length-(k+1))
   case measure=>omega
   case rel =>
    obtain⟨Wq,hA9,hWq⟩:∃Wq,Ap W2 92 5 Dp Wq (.slice aX q9.length cX) (q9++l9) (.slice a9 n9 c9') W9x∧AA Wz Wq:=⟨_,HA9.o,gw⟩;obtain⟨j1,j2⟩:=Want.add (o:=5) (HWZ.o.grew hWq) (HOXZ.o.grew hWq) (by decide) (Nat.le_trans HWZ.o.k.1 (AA.le hWq)) hA9;have j3:=Ep.other (o:=5) (HOOZ.o.grew hWq) (HWZ.o.grew hWq) (HOXZ.o.grew hWq) hA9 (by decide) (by decide);exact⟨k+1,_,_,by omega,by omega,by go_num,hY j1,hY (by rw[HTO.o];exact j3),hY (by rw[HTX.o];exact j2)⟩
  ·obtain rfl:k=lc2.length:=by omega
   rw[HLC2.o,List.take_length] at HW HOO HOX;have HT9:=hY (RTabAt.same (HT.o.grew HG9.o) (HW.o.k.2 t (RTabAt.lt (HT.o.grew HG9.o)) (fun e=>HNT.o e.symm)))
   go_upto_if 244 with fail
   iterate 4 go_step
   refine HNX.o _ _ _ _ (HW.o.g.trans gw) ?_ ?_ ?_ ?_ ?_ (HT9.o.grew gw) (AC gw HW.o.b) (OwnAt.grew HOO.o.1 gw) (OwnAt.grew HOX.o.1 gw) (OwnAt.grew (OwnAt.keepN (HVG.o.grew HG9.o) HW.o.k HW9.o.b (by decide)) gw) (OwnAt.grew (OwnAt.keepN (OwnAt.grew HO.o HG9.o) HW.o.k HW9.o.b (by decide)) gw)
   ·exact⟨rfl,rfl,rfl,rfl,rfl⟩
   ·rfl
   ·rfl
   ·rfl
   ·rfl
theorem A3m{w w':World}{pp:Int}{pm:Gr.Mf}{g:List Gr.Nd}{os:List Int}{xs:List Gr.Ln}{es:List Tab.En}{r:Int×Nat×List Gr.Nd}{p:List Gr.Stp}{e:Ending}(h:Ew w 9 pp pm g os xs es r p e w')(hn:CG es=true)(hr:r.1=0)(hp:pm.epoch=9): e = .returned Zk∧AA w w':=by
 obtain⟨l9,-,s,-,-,-,h4⟩:=h.2.2 hn hr
 exact h4 fun q=>by
  have h5:pm.epoch<9:=q.2.1;rw[hp] at h5;exact absurd h5 (by decide)
theorem A3n{g:List Gr.Nd}{wh:Wh}{l9 l25:List Gr.Nd}{s:List Tab.En}{f:CR}(hr:Gr.RightR g)(hok:CG (EH (Ak g wh 8))=true)(h0:(rP g wh).1=0)(h1:l9.Perm (rP g wh).2.2)(h2:s.Perm (Gc (Tab.newT (EH (Ak g wh 8))) wh.plan))(h3:s.Pairwise fun a b=>Tab.num a≤Tab.num b)(h4:l25.Perm (rP g wh).2.2)(hrel:Dt (Gc (Tab.newT (EH (Ak g wh 8))) wh.plan) f): mMk g wh l9 s=⟨9,(if wh.plan=[] then 0 else 1),EG (Ak g wh 8),Gr.normG l25,Bv f 512,Fh (Ak g wh 8),wh.plan.map Gr.cleanS⟩:=by
 have hr2:Gr.RightR (rP g wh).2.2:=A0c (FM hr) h0;have r9:Gr.RightR l9:=hr2.perm h1.symm;have r25:Gr.RightR l25:=hr2.perm h4.symm;have e1:Gr.normG l9=Gr.normG l25:=Gr.norm_unique ((Gr.normG_perm r9.ids r9.r7).trans (h1.trans h4.symm)) ((Gr.normG_sorted l9).imp fun q=>by omega) r25.ids r25.r7;have e2:s=Bv f 512:=Dt.all (Rc (GI.new hok) wh.plan) hrel h2 h3;unfold mMk;rw[e1,e2]
theorem OwnAt.setM{α:Type}{base N o:Nat}{e:TypeId}{k:Nat}{enc:α→List Value}{W:World}{v u:Value}{l:List α}{cs:Array Value}(h:OwnAt base e k enc W v l)(hb:W.heap[N]? = some (.cells cs 42))(hne:42≠e): OwnAt base e k enc (W.setCell ⟨N,o,none⟩ u) v l :=
 OwnAt.same h fun q hq=>AQ fun e=>OwnAt.other h hb hne (by rw[e];exact hq)
theorem A3o(w W2 W:World)(av:Option Addr)(cv:Nat)(g:List Gr.Nd)(ce:Option Addr)(cE:Nat)(cl:Option Addr)(cL:Nat)(cp:Option Addr)(cP:Nat)(wh:Wh)(x b P:Nat)(a5:Option Addr)(c5:Nat)(a6:Option Addr)(c6:Nat)(lc:List CV)(Q:Exit→Act→World→Prop)(a0:Act)(B:Nat)(c':Dy)(code:Int)(t N:Nat)(f:CR)(l25:List Gr.Nd)(vO vX vG:Value)(lcG:List BM)(vP:Value)(lcP:List Bw)
  (hA:JZ w av cv g ce cE cl cL cp cP wh) (hB:Ck w W2 av cv g ce cE cl cL cp cP wh x b P a5 c5 a6 c6 lc.length (Cq lc)) (hC:DF W2 (Gr.normG g) (Cq lc) (ET (Gr.normG g) wh)) (hl:lc.length=(Af (Gr.normG g)).length) (hl9:lc.length≤24) (hG:AA W2 W) (hF:Js w x P av cv g a0) (h18:a0.tmps.getD 18 undef = .pointer (some ⟨B,0,none⟩)) (h19:a0.tmps.getD 19 undef = .int .i64 code) (h20:a0.tmps.getD 20 undef = .pointer (some ⟨t,0,none⟩)) (h26:a0.tmps.getD 26 undef = .pointer (some ⟨N,0,none⟩)) (hb:W2.heap[B]? = some (.cells (JK c').toArray 42)) (hres:Kc W2 g wh c' code) (hok:CG (EH (Ak g wh 8))=true) (hT:RTabAt W t f) (hrel:Dt (Gc (Tab.newT (EH (Ak g wh 8))) wh.plan) f) (hr0:(rP g wh).1=0) (hlp:l25.Perm (rP g wh).2.2) (hb7:W.heap[N]? = some (.cells #[.int .i64 9,.int .i64 (if wh.plan=[] then 0 else 1),vO,vG,.slice none 0 0,vX,vP] 42)) (hN:W2.heap.size≤N) (hvo:OwnAt W2.heap.size 3 1 Cx W vO (EG (Ak g wh 8))) (hvx:OwnAt W2.heap.size 92 5 Dp W vX (Fh (Ak g wh 8))) (hvg:OwnAt W2.heap.size 64 13 Ae W vG lcG) (hrg:BL (A9 w) lcG (Gr.normG l25)) (hvp:OwnAt W2.heap.size 66 15 CS W vP lcP) (hrp:BL (Ai w) lcP (wh.plan.map Gr.cleanS)) (hxl:(Fh (Ak g wh 8)).length≤3000)
  (hret:∀a' w',Ow w a' w'→Q .ret a' w')
  (hnext:True) :
  Code.wp Tryz.prog (FO 65) Q a0 W:=by
 obtain⟨hfr,h0,h4,h7,h9⟩:=hF;obtain⟨u,hu⟩:∃u:Nat→Value,u=fun i=>a0.tmps.getD i undef:=⟨_,rfl⟩
 rw[←hu] at hfr;have u0:u 0=_:=(congrFun hu 0).trans h0;have u4:u 4=_:=(congrFun hu 4).trans h4;have u7:u 7=_:=(congrFun hu 7).trans h7;have u9:u 9=_:=(congrFun hu 9).trans h9;have u18:u 18=_:=(congrFun hu 18).trans h18;have u19:u 19=_:=(congrFun hu 19).trans h19;have u20:u 20=_:=(congrFun hu 20).trans h20;have u26:u 26=_:=(congrFun hu 26).trans h26;clear hu h0 h4 h7 h9 h18 h19 h20 h26;subst hfr
 conv=>arg 2;whnf
 unfold Ii;rw[u0,u4,u7,u9,u18,u19,u20,u26];clear u0 u4 u7 u9 u18 u19 u20 u26;have HRES:=hY hres;have HOK:=hY hok;have HBB:=hY hb;clear hres hok hb;have HA:=hY hA;have HB:=hY (hB.grew hG);have HB2:=hY hB;have HC:=hY hC;have HL:=hY hl;have HG:=hY hG;have HRET:=hY hret;have HNX:=hY hnext;clear hA hB hC hret hnext hG hl;obtain⟨l9,s,q1,q2,q3,q4,q5⟩:=HRES.o.ok HOK.o hr0;have hme:=A3n HA.o.r HOK.o hr0 q1 q2 q3 hlp hrel;rw[hme] at q4 q5;have HQ4:=hY q4;have HQ5:=hY q5;have HR0:=hY hr0;clear hme q1 q2 q3 q4 q5 hlp hrel hr0;obtain⟨aO,cO,rfl⟩:=(OwnAt.rows hvo Ar).len;obtain⟨aX,cX,rfl⟩:=(OwnAt.rows hvx Bt).len;obtain⟨aG,cG,rfl⟩:=(OwnAt.rows hvg AZ).len;obtain⟨aP,cP9,rfl⟩:=(OwnAt.rows hvp Cb).len;obtain⟨pl,hpl⟩:∃pl:Int,(if wh.plan=[] then 0 else 1)=pl:=⟨_,rfl⟩;rw[hpl] at hb7 HQ4 HQ5;have HALL:=hY fun W3 (q:AA W W3)=>RY W3 t f (hT.grew q)
 have HB7:=hY hb7;have HVO:=hY hvo;have HVX:=hY hvx;have HVG:=hY hvg;have HVP:=hY hvp;have HRG:=hY hrg;have HRP:=hY hrp;have HN:=hY hN;have HXL:=hY hxl;have m4:W.cell? ⟨N,4,none⟩=some (.slice none 0 0):=(cell_of hb7).trans rfl;have f4:=AJ (o:=4) hb7;have pN:=Ad.mk (AB hb7);clear hT hb7 hN hvo hvx hvg hrg hvp hrp hpl hxl
 go_upto_region 66 with (go_at_call 17;((with_reducible refine Calls.mono (HALL.o _ ?_) ?_));(focus(exact gw));rintro e1 w1 ⟨v1,rfl,ho1,R3,n3,rfl⟩;obtain⟨aT,cT,rfl⟩:=(OwnAt.rows ho1 Az).len;(have HO1:=hY ho1);clear ho1)
 obtain⟨Wz,hWz⟩:∃Wz,Wz=(W.setCell ⟨N,4,none⟩ (.slice aT (Bv f 512).length cT)).more R3 n3:=⟨_,rfl⟩;have hgz:AA W2 Wz:=by rw[hWz];exact(HG.o.set HN.o _).more R3 n3
 have hgw:AA w Wz:=HB2.o.gr.trans hgz
 have hNz:Wz.heap[N]? = some (.cells #[.int .i64 9,.int .i64 pl,.slice aO (EG (Ak g wh 8)).length cO,.slice aG lcG.length cG,.slice aT (Bv f 512).length cT,.slice aX (Fh (Ak g wh 8)).length cX,.slice aP lcP.length cP9] 42):=by
  rw[hWz];exact AC (W:=W.setCell ⟨N,4,none⟩ (.slice aT (Bv f 512).length cT)) gw (by rw[set_self HB7.o];rfl)
 have hst:∀{α:Type} {base:Nat} {e:TypeId} {k:Nat} {enc:α→List Value} {v:Value} {l:List α},OwnAt base e k enc W v l→42≠e→OwnAt base e k enc Wz v l:=fun h hne=>by
  rw[hWz];exact OwnAt.grew (OwnAt.setM h HB7.o hne) gw
 have he1:Bp Wz (.slice aT (Bv f 512).length cT) (Bv f 512):=by
  have h1:=OwnAt.setM (N:=N) (o:=4) (u:=.slice aT (Bv f 512).length cT) HO1.o (AC gw HB7.o) (by decide);rw[World.setCell_more_past R3 n3 N 4 _ (AB HB7.o),←hWz] at h1;exact OwnAt.rows h1 Az
 have hmf:Dl Wz ⟨9,pl,aO,(EG (Ak g wh 8)).length,cO,aG,lcG.length,cG,aT,(Bv f 512).length,cT,aX,(Fh (Ak g wh 8)).length,cX,aP,lcP.length,cP9⟩ ⟨9,pl,EG (Ak g wh 8),Gr.normG l25,Bv f 512,Fh (Ak g wh 8),wh.plan.map Gr.cleanS⟩ :=
  ⟨rfl,rfl,OwnAt.rows (hst HVO.o (by decide)) Ar,BC.at ⟨lcG,OwnAt.rows (hst HVG.o (by decide)) AZ,HRG.o⟩ hgw,he1,OwnAt.rows (hst HVX.o (by decide)) Bt,⟨lcP,OwnAt.rows (hst HVP.o (by decide)) Cb,BL.len HRP.o,fun i c s h1 h2=>(BL.get HRP.o i c s h1 h2).grew hgw⟩⟩
 rw[←hWz];have HMF:=hY hmf;have HGZ:=hY hgz;have HGW:=hY hgw;have HBZ:=hY (HB2.o.grew hgz);generalize hxs:Fh (Ak g wh 8)=xs at *;generalize hos:EG (Ak g wh 8)=os at *;have HXS:=hY hxs;have HOS:=hY hos;generalize hpc:wh.plan.map Gr.cleanS=pcl at *;have HRT:=hY fun W3 (q:AA Wz W3)=>Iz _ _ W3 (hmf.grew q)
 obtain⟨n0,n1,n2,n3',n4,n5,n6,-,pNz⟩:=seven hNz;clear hWz hgz hgw hst he1 hmf hNz m4 f4 pN HALL HO1 HVO HVX HVG HVP hxs hos hpc;cases hrb:BS ⟨9,pl,os,Gr.normG l25,Bv f 512,xs,pcl⟩
 case false =>
  have hcode:=HQ5.o hrb;subst hcode;rw[hrb] at HRT;clear hrb
  go_wp2_with (go_at_call 18;((with_reducible refine Calls.mono (HRT.o _ ?_) ?_));(focus(exact gw));rintro e1 w1 ⟨rfl,R5,n5',rfl⟩)
  exact HRET.o _ _ ⟨rfl,rfl,HGW.o.trans gw⟩
 obtain⟨hcode,hmc⟩:=HQ4.o hrb;subst hcode;rw[hrb] at HRT;have hrm:=Gu.1 hrb;have hmcz:=hmc.grew HGZ.o;have HRC:=hY fun W3 (q:AA Wz W3)=>Iz _ _ W3 (hmcz.grew q)
 rw[hrb] at HRC;have HMC:=hY fun W3 (q:AA Wz W3)=>Kr _ _ W3 (hmcz.grew q) HXL.o hrm
 have HMW:=hY fun W3 (q:AA Wz W3)=>Kr _ _ W3 (HMF.o.grew q) HXL.o hrm
 have HM2:=hY fun W3 (q:AA Wz W3)=>(A0m HA.o HB2.o HC.o HL.o hl9 W3 (HGZ.o.trans q) ⟨9,0,none,0,0,a6,(Gr.normG g).length,c6,none,0,0,none,0,0,none,0,0⟩ ⟨9,0,[],Gr.normG g,[],[],[]⟩ ⟨rfl,rfl,AX.nil,HBZ.o.fn.grew q,AX.nil,AX.nil,BA.nil _⟩ rfl ⟨Int.le_refl _,by show(0:Int)≤1000000;decide⟩).mono fun e w' h=>A3m h HOK.o HR0.o rfl
 unfold Zk at HM2;have hbz:=AC HGZ.o HBB.o;generalize Gr.putM BZ ⟨9,pl,os,Gr.normG l25,Bv f 512,xs,pcl⟩=T at *;obtain⟨e2,p2,ao2,no2,co2,ag2,ng2,cg2,ae2,ne2,ce2,ax2,nx2,cx2,ap2,np2,cp2⟩:=c';simp only[JK] at hbz;obtain⟨k0,k1,k2,k3,k4,k5,k6,-,pkz⟩:=seven hbz;simp only at HRC HMC;have b0:=cell_of (o:=0) (W:=Wz) HBZ.o.wb;have b1:=cell_of (o:=1) (W:=Wz) HBZ.o.wb;have b2:=cell_of (o:=2) (W:=Wz) HBZ.o.wb;have b3:=cell_of (o:=3) (W:=Wz) HBZ.o.wb;have b4:=cell_of (o:=4) (W:=Wz) HBZ.o.wb;have b5:=cell_of (o:=5) (W:=Wz) HBZ.o.wb;simp at b0 b1 b2 b3 b4 b5;have pbw:=Ad.mk (W:=Wz) (AB HBZ.o.wb);have p0:=cell_of (o:=0) (W:=Wz) HBZ.o.pb;have p1:=cell_of (o:=1) (W:=Wz) HBZ.o.pb;have p2:=cell_of (o:=2) (W:=Wz) HBZ.o.pb;have p3:=cell_of (o:=3) (W:=Wz) HBZ.o.pb;have p4:=cell_of (o:=4) (W:=Wz) HBZ.o.pb;have p5:=cell_of (o:=5) (W:=Wz) HBZ.o.pb;have p6:=cell_of (o:=6) (W:=Wz) HBZ.o.pb;simp at p0 p1 p2 p3 p4 p5 p6;have ppp:=Ad.mk (W:=Wz) (AB HBZ.o.pb);clear hrb hmc hrm hmcz hbz
 go_upto_region 69 with (first
  | (go_at_call 18;((with_reducible refine Calls.mono (HRT.o _ ?_) ?_));(focus(exact gw));rintro e1 w1 ⟨rfl,R5,n5',rfl⟩)
  | (go_at_call 11;((with_reducible refine Calls.mono (HM2.o _ ?_) ?_));(focus(exact gw));rintro e1 w1 ⟨rfl,R6,n6',rfl⟩))
 refine AY 18 Tryz.mixed (by kernel_rfl) (by kernel_rfl) ?_
 iterate 4
  apply Ch.val
  focus
   rintro w1 u ⟨R1,n1,rfl⟩ hF;simp[AR,AU.more,Oper.deps,Region.binds,List.filter_cons,World.more_drew] at hF;simp[AL,Oper.deps,Region.binds,List.filter_cons,Region.dstOf,AU.at,Act.put,World.more_drew];go_wp2;exact⟨gw,rfl,_,_,rfl,rfl,rfl⟩
 apply Ch.val
 focus
  rintro w1 u ⟨R1,n1,rfl⟩ hF;simp[AR,AU.more,Oper.deps,Region.binds,List.filter_cons,World.more_drew] at hF;simp[AL,Oper.deps,Region.binds,List.filter_cons,Region.dstOf,AU.at,Act.put,World.more_drew]
  go_wp2_with (first
   | (go_at_call 18;go_loud (refine(HRC.o _ gw).mono ?_);rintro e w5 ⟨rfl,R5,n5',rfl⟩)
   )
  exact⟨gw,rfl,_,_,rfl,rfl,rfl⟩
 iterate 3
  apply Ch.val
  focus
   rintro w1 u ⟨R1,n1,rfl⟩ hF;simp[AR,AU.more,Oper.deps,Region.binds,List.filter_cons,World.more_drew] at hF;simp[AL,Oper.deps,Region.binds,List.filter_cons,Region.dstOf,AU.at,Act.put,World.more_drew];go_wp2;exact⟨gw,rfl,_,_,rfl,rfl,rfl⟩
 apply Ch.val
 focus
  rintro w1 u ⟨R1,n1,rfl⟩ hF;simp[AR,AU.more,Oper.deps,Region.binds,List.filter_cons,World.more_drew] at hF;simp[AL,Oper.deps,Region.binds,List.filter_cons,Region.dstOf,AU.at,Act.put,World.more_drew]
  go_wp2_with (first
   | (go_at_call 19;go_loud (refine(HMC.o _ gw).mono ?_);rintro e w5 ⟨rfl,R5,n5',rfl⟩)
   )
  exact⟨gw,rfl,_,_,rfl,rfl,rfl⟩
 iterate 1
  apply Ch.val
  focus
   rintro w1 u ⟨R1,n1,rfl⟩ hF;simp[AR,AU.more,Oper.deps,Region.binds,List.filter_cons,World.more_drew] at hF;simp[AL,Oper.deps,Region.binds,List.filter_cons,Region.dstOf,AU.at,Act.put,World.more_drew];go_wp2;exact⟨gw,rfl,_,_,rfl,rfl,rfl⟩
 apply Ch.val
 focus
  rintro w1 u ⟨R1,n1,rfl⟩ hF;simp[AR,AU.more,Oper.deps,Region.binds,List.filter_cons,World.more_drew] at hF;simp[AL,Oper.deps,Region.binds,List.filter_cons,Region.dstOf,AU.at,Act.put,World.more_drew]
  go_wp2_with (first
   | (go_at_call 19;go_loud (refine(HMW.o _ gw).mono ?_);rintro e w5 ⟨rfl,R5,n5',rfl⟩)
   )
  exact⟨gw,rfl,_,_,rfl,rfl,rfl⟩
 iterate 7
  apply Ch.val
  focus
   rintro w1 u ⟨R1,n1,rfl⟩ hF;simp[AR,AU.more,Oper.deps,Region.binds,List.filter_cons,World.more_drew] at hF;simp[AL,Oper.deps,Region.binds,List.filter_cons,Region.dstOf,AU.at,Act.put,World.more_drew];go_wp2;exact⟨gw,rfl,_,_,rfl,rfl,rfl⟩
 rintro u w1 ⟨R1,n1,rfl⟩ hF;clear hF;simp[AL,Region.dstOf,AU.at,Act.put,List.range_succ,World.more_drew]
 go_wp2_with fail
 exact HRET.o _ _ ⟨rfl,rfl,HGW.o.trans gw⟩
theorem A0Y{w W:World}{a:Act}(h:Ow w a W): bodyPost Tryz.prog Tryz.f3 (Ac (.bool true) w) .ret a W:=by
 obtain⟨t,d⟩:=a;obtain⟨h1,h2,h3⟩:=h;simp only at h1 h2;subst h2;refine bodyPost_ret (v:=.bool true) ?_ rfl ⟨rfl,h3⟩;simp[results,Tryz.results3,go_sem];rw[←Array.getD_eq_getD_getElem?,h1]
theorem KZ(W:World)(c:CV)(b:Nat)(t:TypeId)(hb:b=W.heap.size): J2 (W.alloc (.cells (Ej c).toArray t)) (.slice (some ⟨b,0,none⟩) 1 1) [c] :=
 AX.fresh (l:=[c]) (c:=Ej c) rfl (by simp[maxLen]) EW hb (by simp)
theorem A0Z(w W:World)(av:Option Addr)(cv:Nat)(g:List Gr.Nd)(ce:Option Addr)(cE:Nat)(cl:Option Addr)(cL:Nat)(cp:Option Addr)(cP:Nat)(wh:Wh)(x b:Nat)(a5:Option Addr)(c5:Nat)(a6:Option Addr)(c6:Nat)(n:Nat)(m:List (Ca×CV))(Q:Exit→Act→World→Prop)(a0:Act)(vt:Value)(ts:List UInt8)
  (hA:JZ w av cv g ce cE cl cL cp cP wh) (hPB:∃P,Js w x P av cv g a0∧Ck w W av cv g ce cE cl cL cp cP wh x b P a5 c5 a6 c6 n m) (h2:a0.tmps.getD 2 undef=vt) (ht:AX 1 JS w vt ts) (ht60:ts.length≤60) (hret:∀a' w',Ow w a' w'→Q .ret a' w')
  (hnext:∀P,Ck w W av cv g ce cE cl cL cp cP wh x b P a5 c5 a6 c6 n m→∀a' w' lc L aL cL2,AA W w'→Js w x P av cv g a'→a'.tmps.getD 11 undef = .slice aL lc.length cL2→DZ W.heap.size w' (.slice aL lc.length cL2) lc L→L.Perm (Ak g wh 8)→Code.wp Tryz.prog (FO 17) Q a' w'):Code.wp Tryz.prog (FO 9) Q a0 W:=by
 obtain⟨P,hF,hB⟩:=hPB;exact A2K w W av cv g ce cE cl cL cp cP wh x b P a5 c5 a6 c6 n m Q a0 vt ts hA hB hF h2 ht ht60 hret (hnext P hB)
theorem VK{p:List Gr.Stp}(h:Eo p=false): p.length≤20:=by
 unfold Eo at h;simp only[Bool.or_eq_false_iff,decide_eq_false_iff_not] at h;omega
theorem Ov(v vt:Value)(g:List Gr.Nd)(ce:Option Addr)(cE:Nat)(cl:Option Addr)(cL:Nat)(cp:Option Addr)(cP:Nat)(wh:Wh)(ts:List UInt8)(w:World)(hv:AV w v g)(hcap:capOk v)(hw:UJ w ce cE cl cL cp cP wh)(ht:AX 1 JS w vt ts):
  Calls Tryz.prog 3 #[v,.agg #[.slice ce wh.ents.length cE,.slice cl wh.lines.length cL,.int .i64 wh.o0,.int .i64 wh.o1,.int .i64 wh.o2,.slice cp wh.plan.length cP],vt] w (Ac (.bool true) w):=by
 obtain⟨av,cv,rfl,hm,-⟩:=hv.openC;obtain⟨at0,ct0,rfl⟩:=ht.len;have hgr:=fun W vl (hl:J2 W vl [⟨0,0,0,ce,wh.ents.length,cE,cl,wh.lines.length,cL,0⟩]) (q:AA w W)=>UI _ _ vl g wh.plan [⟨0,0,0,ce,wh.ents.length,cE,cl,wh.lines.length,cL,0⟩] W (hv.grew q) (hw.p.grew q) hl
 have hck:=fun W (q:AA w W)=>A8 _ g W (hv.grew q)
 show Calls Tryz.prog _ #[.slice av g.length cv,.agg #[.slice ce wh.ents.length cE,.slice cl wh.lines.length cL,.int .i64 wh.o0,.int .i64 wh.o1,.int .i64 wh.o2,.slice cp wh.plan.length cP],.slice at0 ts.length ct0] w _;cases hq:GD g wh.plan [⟨0,0,0,ce,wh.ents.length,cE,cl,wh.lines.length,cL,0⟩]
 case true =>
  rw[hq] at hgr;have HGR:=hY hgr;clear hgr hck hq hv hcap hw ht;go_enter Tryz.func3,Tryz.ntmps3
  go_wp2_with (first
   | (go_at_call 4;refine(Fs _).mono ?_;rintro e w1 ⟨rfl,R1,n1,rfl⟩)
   | (go_at_call 5;go_loud (refine(HGR.o _ _ (KZ _ _ _ _ (by first|rfl|simp[go_sem])) gw).mono ?_);rintro e w1 ⟨rfl,R2,n2,rfl⟩))
  go_ret;exact⟨rfl,gw⟩
 rw[hq] at hgr;have HGR:=hY hgr;obtain⟨⟨hq8,hqp⟩,-,hbd⟩:=ZI hq;clear hgr hq;by_cases hr:Gr.RightR g
 case neg =>
  obtain⟨ck,hckv⟩:∃ck,AP g=ck:=⟨_,rfl⟩;have hc0:(ck != 0)=true:=by rw[←hckv];exact J5 hr
  rw[hckv] at hck;have HCK:=hY hck;clear hck hv hcap hw ht hbd hq8 hqp hr hckv;go_enter Tryz.func3,Tryz.ntmps3
  go_wp2_with (first
   | (go_at_call 4;refine(Fs _).mono ?_;rintro e w1 ⟨rfl,R1,n1,rfl⟩)
   | (go_at_call 5;go_loud (refine(HGR.o _ _ (KZ _ _ _ _ (by first|rfl|simp[go_sem])) gw).mono ?_);rintro e w1 ⟨rfl,R2,n2,rfl⟩)
   | (go_at_call 6;((with_reducible refine Calls.mono (HCK.o _ ?_) ?_));(focus(exact gw));rintro e w1 ⟨rfl,R3,n3,rfl⟩))
  go_ret;exact⟨rfl,gw⟩
 rw[J6 hr] at hck;have HCK:=hY hck;clear hck;by_cases h60:ts.length≤60
 case neg =>
  have h61:(60:Int)<(ts.length:Int):=by omega
  clear hv hcap hw ht hbd hq8 hqp hr h60;go_enter Tryz.func3,Tryz.ntmps3
  go_wp2_with (first
   | (go_at_call 4;refine(Fs _).mono ?_;rintro e w1 ⟨rfl,R1,n1,rfl⟩)
   | (go_at_call 5;go_loud (refine(HGR.o _ _ (KZ _ _ _ _ (by first|rfl|simp[go_sem])) gw).mono ?_);rintro e w1 ⟨rfl,R2,n2,rfl⟩)
   | (go_at_call 6;((with_reducible refine Calls.mono (HCK.o _ ?_) ?_));(focus(exact gw));rintro e w1 ⟨rfl,R3,n3,rfl⟩))
  go_ret;exact⟨rfl,gw⟩
 obtain⟨hb1,hb2⟩:=hbd _ (List.mem_cons_self ..);simp only at hb1 hb2;have hA:JZ w av cv g ce cE cl cL cp cP wh:=⟨hv,hcap,hw,hr,(TD hq8).1,hb1,hb2,VK hqp,Qx hqp⟩;have HA:=hY hA;have HTS:=hY ht;have HNEW:=hY fun W (q:AA w W)=>XX _ g 9 W (hv.grew q) hA.s
 have HFST:=hY fun W (q:AA w W)=>ZN _ g W (hv.grew q) hA.s
 have HPR:=hY fun W a1 c1 a2 c2 h1 h2=>Ka ⟨0,0,a1,(Be g).toNat,c1,a2,(Gr.normG g).length,c2,none,0,0,none,0,0,none,0,0⟩ (J7 g) W ⟨rfl,rfl,h1,h2,AX.nil,AX.nil,BA.nil W⟩ (G9 hr hA.s) (fun s hs=>by cases hs) (by show(0:Nat)≤100000;decide)
 rw[UM hr] at HPR;have HRR:=hY hr;clear hv hcap hw ht hbd hq8 hqp hr hA hb1 hb2;go_enter Tryz.func3,Tryz.ntmps3
 go_upto_if 83 with (first
  | (go_at_call 4;refine(Fs _).mono ?_;rintro e w1 ⟨rfl,R1,n1,rfl⟩)
  | (go_at_call 5;go_loud (refine(HGR.o _ _ (KZ _ _ _ _ (by first|rfl|simp[go_sem])) gw).mono ?_);rintro e w1 ⟨rfl,R2,n2,rfl⟩)
  | (go_at_call 6;((with_reducible refine Calls.mono (HCK.o _ ?_) ?_));(focus(exact gw));rintro e w1 ⟨rfl,R3,n3,rfl⟩)
  | (go_at_call 7;((with_reducible refine Calls.mono (HNEW.o _ ?_) ?_));(focus(exact gw));rintro e w1 ⟨-,-,h2⟩;obtain⟨x,b,rfl,hG,hx,hb,R4,n4,rfl⟩:=h2 HRR.o (by omega);(have HGA:=hY hG);(have hbw:w.heap.size≤b:=Nat.le_trans (AA.le gw) hb);(have HBW:=hY hbw);clear h2 hG hx hb hbw)
  | (go_at_call 8;((with_reducible refine Calls.mono (HFST.o _ ?_) ?_));(focus(exact gw));rintro e w1 ⟨h2,-,R5,n5,rfl⟩;obtain⟨a5,c5,a6,c6,rfl,hi5,hn5⟩:=h2 HRR.o;(have HI5:=hY hi5);(have HN5:=hY hn5);clear h2 hi5 hn5)
  | (go_at_call 9;((with_reducible refine Calls.mono (HPR.o _ _ _ _ _ ?_ ?_) ?_));(focus(exact(AX.grew HI5.o gw)));(focus(exact(HN5.o.grew gw)));rintro e w1 ⟨rfl,R6,n6,rfl⟩))
 iterate 4 go_step
 have hret:∀a' w',Ow w a' w'→bodyPost Tryz.prog Tryz.f3 (Ac (.bool true) w) .ret a' w':=fun a' w' h=>A0Y h
 refine A0Z w _ av cv g ce cE cl cL cp cP wh x b a5 c5 a6 c6 0 [] _ _ (.slice at0 ts.length ct0) ts HA.o ?_ rfl HTS.o h60 hret fun P hB a1 w1 lc L aL cL2 g1 F1 h11 hO hP=>?_
 ·exact⟨_,⟨rfl,rfl,rfl,rfl,rfl⟩,⟨gw,HBW.o,AC gw (AO w (.cells #[.slice ce wh.ents.length cE,.slice cl wh.lines.length cL,.int .i64 wh.o0,.int .i64 wh.o1,.int .i64 wh.o2,.slice cp wh.plan.length cP] 28) _ rfl),HGA.o.grew gw,AC gw (AO _ (.cells #[.int .i64 0,.int .i64 0,.slice a5 (Be g).toNat c5,.slice a6 (Gr.normG g).length c6,.slice none 0 0,.slice none 0 0,.slice none 0 0] 42) _ (by simp[go_sem])),AX.grew HI5.o gw,HN5.o.grew gw⟩⟩
 have hL:=NS HRR.o wh;have hr2:=FM HRR.o
 have hxl:(Fh (Ak g wh 8)).length≤3000:=by
  have hl:=EX wh (fun n hn=>((DN HRR.o) n hn).1.2) 8;unfold Fh;refine Nat.le_trans (DI (n:=100) fun y hy=>?_) (Nat.le_trans (Nat.mul_le_mul hl (Nat.le_refl 100)) (by decide));obtain⟨i,hi,rfl⟩:=List.mem_iff_getElem.1 (hP.mem_iff.2 hy);have hi2:i<lc.length:=by rw[BL.len hO.r];exact hi
  exact(BL.get hO.r i lc[i] L[i] (List.getElem?_eq_getElem hi2) (List.getElem?_eq_getElem hi)).2.2.2.2.2.2.2
 have hP':=hP;rw[hL] at hP';have hlT:lc.length=(Af (Gr.normG g)).length:=by rw[BL.len hO.r,hP'.length_eq,List.length_map]
 have htl:=De (Gr.normG g) fun n hn=>(DN hr2 n hn).1.2
 have hl24:lc.length≤24:=by have:=hr2.len;omega
 refine A3j w w1 av cv g ce cE cl cL cp cP wh x b P a5 c5 a6 c6 0 [] _ _ _ aL cL2 lc L HA.o (hB.grew g1) F1 h11 rfl rfl hO hP' hret fun a2 w2 hB2 hC2 F2=>?_
 refine A3k w w2 w2 av cv g ce cE cl cL cp cP wh x b P a5 c5 a6 c6 lc _ _ HA.o hB2 hC2 hlT hl24 (AA.refl _) F2 hret fun wm a3 w3 c' code t B f gm gm3 F3 h18 h19 h20 hBB hres hlt hT hrel hok=>?_
 have hBm:=hB2.grew gm;have hCm:=hC2.grew gm;refine A2L w wm w3 av cv g ce cE cl cL cp cP wh x b P a5 c5 a6 c6 lc _ _ B c' code t f HA.o hBm hCm hlT hl24 gm3 F3 h18 h19 h20 hBB hres hok hlt hT hrel hret fun a4 w4 Wp N v25 l25 vP lcP f' g4 F4 h18 h19 h20 h25 h26 hT4 hrel4 hr0 hlp hnu hw4 ho4 hrp hWp hNt=>?_
 refine A0k w wm w4 av cv g ce cE cl cL cp cP wh x b P a5 c5 a6 c6 lc _ _ B c' code t N f' v25 l25 vP lcP HA.o hBm hCm hlT hl24 g4 F4 h18 h19 h20 h25 h26 hBB hres hok hT4 hnu ⟨hw4.g,hw4.lo,A7.ofGrew (AA.refl _),hw4.b⟩ ho4.1 hNt (AB hw4.b) hret fun a5' w5 vG lcG g5 F5 h18 h19 h20 h26 hT5 hw5 hvg hrg hvp=>?_
 refine A2N w wm w5 av cv g ce cE cl cL cp cP wh x b P a5 c5 a6 c6 lc _ _ B c' code t N f' vG lcG vP lcP HA.o hBm hCm hlT hl24 g5 F5 h18 h19 h20 h26 hBB hres hok hT5 hw5 hvg hvp hNt hret fun a6' w6 vO vX g6 F6 h18 h19 h20 h26 hT6 hb7 hvo hvx hvg hvp=>?_
 exact A3o w wm w6 av cv g ce cE cl cL cp cP wh x b P a5 c5 a6 c6 lc _ _ B c' code t N f' l25 vO vX vG lcG vP lcP HA.o hBm hCm hlT hl24 g6 F6 h18 h19 h20 h26 hBB hres hok hT6 hrel4 hr0 hlp hb7 hw4.lo hvo hvx hvg hrg hvp hrp hxl hret trivial
end Go.Proofs.YtgebkpgilgppgaaGreat
