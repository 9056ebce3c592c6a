import Derived.Test.YtgebkpgilgppgaaGreatMw44
set_option linter.unusedSimpArgs false
set_option linter.unusedVariables false
set_option maxRecDepth 100000
set_option maxHeartbeats 64000000
namespace Go.Proofs.YtgebkpgilgppgaaGreat
open Go.RowKit Ga
theorem A2K(w W:World)(av:Option Addr)(cv:Nat)(g:List Gr.Nd)(ce:Option Addr)(cE:Nat)(cl:Option Addr)(cL:Nat)(cp:Option Addr)(cP:Nat)(wh:Wh)(x b P:Nat)(a5:Option Addr)(c5:Nat)(a6:Option Addr)(c6:Nat)(n:Nat)(m:List (Ca×CV))(Q:Exit→Act→World→Prop)(a0:Act)(vt:Value)(ts:List UInt8)
  (hA:JZ w av cv g ce cE cl cL cp cP wh) (hB:Ck w W av cv g ce cE cl cL cp cP wh x b P a5 c5 a6 c6 n m) (hF:Js w x P av cv g a0) (h2:a0.tmps.getD 2 undef=vt) (ht:AX 1 JS w vt ts) (ht60:ts.length≤60)
  (hret:∀a' w',Ow w a' w'→Q .ret a' w')
  (hnext:∀a' w' lc L aL cL2,AA W w'→Js w x P av cv g a'→a'.tmps.getD 11 undef = .slice aL lc.length cL2→DZ W.heap.size w' (.slice aL lc.length cL2) lc L→L.Perm (Ak g wh 8)→Code.wp Tryz.prog (FO 17) Q a' w') :
  Code.wp Tryz.prog (FO 9) Q a0 W:=by
 obtain⟨hfr,h0,h4,h7,h9⟩:=hF;obtain⟨u,hu⟩:∃u:Nat→Value,u=fun i=>a0.tmps.getD i undef:=⟨_,rfl⟩
 rw[←hu] at hfr;have u0:u 0=_:=(congrFun hu 0).trans h0;have u4:u 4=_:=(congrFun hu 4).trans h4;have u7:u 7=_:=(congrFun hu 7).trans h7;have u9:u 9=_:=(congrFun hu 9).trans h9;have u2:u 2=_:=(congrFun hu 2).trans h2;clear hu h0 h4 h7 h9 h2;subst hfr
 conv=>arg 2;whnf
 unfold Ii;rw[u0,u4,u7,u9,u2];clear u0 u4 u7 u9 u2;have HA:=hY hA;have HB:=hY hB;have HRET:=hY hret;have HNX:=hY hnext;clear hA hB hret hnext;have HTU:=hY ht;obtain⟨atu,ctu,rfl,htm,-⟩:=ht;have hul:=EX wh (fun n hn=>((DN HA.o.r) n hn).1.2) 8;have HAC:=hY fun W2 (q:AA W W2)=>OD av cv g ce cE cl cL cp cP wh W2 (HA.o.hv.grew (HB.o.gr.trans q)) (HA.o.whi.grew (HB.o.gr.trans q)) HA.o.r HA.o.el HA.o.ll
 have b0:=cell_of (o:=0) (W:=W) HB.o.wb;have b1:=cell_of (o:=1) (W:=W) HB.o.wb;have b2:=cell_of (o:=2) (W:=W) HB.o.wb;have b3:=cell_of (o:=3) (W:=W) HB.o.wb;have b4:=cell_of (o:=4) (W:=W) HB.o.wb;have b5:=cell_of (o:=5) (W:=W) HB.o.wb;simp at b0 b1 b2 b3 b4 b5;have pbw:=Ad.mk (W:=W) (AB HB.o.wb)
 go_wp2_with (go_at_call 10;((with_reducible refine Calls.mono (HAC.o _ ?_) ?_));(focus(exact gw));rintro e1 w1 ⟨aL,cL2,lc,rfl,hS⟩;obtain⟨R3,n3,rfl⟩:=hS.g;(have HS:=hY hS.own);clear hS)
 have hlc:=BL.len HS.o.r;have hlc24:lc.length≤24:=by omega
 have HLC:=hY hlc;clear hlc hul;have HSZ:Hid (∀(W2:World) R N,(W2.more R N).heap.size=W2.heap.size+R.size):=hY fun W2 R N=>World.more_size R N
 go_loopg [89] lc.length (fun gg s89 wr=>∃(k:Nat) (lc2:List CV) (L2:List (Ca×Fq)),k≤lc.length∧lc.length-k≤gg∧lc2.length=lc.length∧s89 = .int .i64 (k:Int)∧Hid (AA W wr)∧Hid (DZ W.heap.size wr (.slice aL lc.length cL2) lc2 L2)∧Hid (L2.Perm (Ak g wh 8)))
 case atStart=>exact⟨0,lc,(Ak g wh 8),by omega,by omega,rfl,rfl,hY gw,hY (HS.o.grew gw),hY (List.Perm.refl _)⟩
 case round =>
  obtain⟨k,lc2,L2,hk,hgg,hl2,rfl,HG,HO,HP⟩:=hrel;rename World=>wa;by_cases hlt:k<lc.length
  ·by_cases hkt:k<ts.length
   case neg =>
    go_wp2
    go_roundg (lc.length-(k+1))
    case measure=>omega
    case rel=>exact⟨k+1,lc2,L2,by omega,by omega,hl2,by go_num,hY (HG.o.trans gw),hY (HO.o.grew gw),HP⟩
   obtain⟨qt,offt,eqt,pt,tc⟩:=Vb (HTU.o.grew (HB.o.gr.trans HG.o)) hkt;subst eqt;have ht8:ts[k].toNat<256:=ts[k].toNat_lt;generalize ts[k].toNat=tn at *;have hmod:=A2J tn lc.length k hlt;obtain⟨r,hr⟩:∃r,tn%(lc.length-k)=r:=⟨_,rfl⟩;have hrl:r<lc.length-k:=by rw[←hr];exact Nat.mod_lt _ (by omega)
   rw[hr] at hmod;clear hr;have hq:k+r<lc2.length:=by omega
   have hk2:k<lc2.length:=by omega
   obtain⟨W0,hW0⟩:∃W0,W0=wa.drew:=⟨_,rfl⟩;have hg0:AA wa W0:=by rw[hW0];exact gw
   have hO0:=HO.o.grew hg0;obtain⟨qa,eqa,-,pa,x0,x1,x2,x3,x4,x5⟩:=E8 hO0.o hk2;subst eqa;obtain⟨qa',eqa,-,-,y0,y1,y2,y3,y4,y5⟩:=E8 hO0.o hq;cases eqa;have hbase:W.heap.size≤qa:=OwnAt.lt hO0.o qa rfl;have hL2:L2.length=lc2.length:=(BL.len hO0.r).symm;obtain⟨-,csa,hcs⟩:=OwnAt.block hO0.o rfl;have HSW:=hY fun Wy=>DZ.swap2 (Wy:=Wy) hO0 hk2 hq (by rw[hL2];exact hk2) (by rw[hL2];exact hq)
   have HPM:=hY ((@List.set_set_perm _ L2 k (k+r) (by rw[hL2];exact hk2) (by rw[hL2];exact hq)).trans HP.o);have HBS:=hY hbase;generalize lc2[k]=ya at *;generalize lc2[k+r]=yb at *;obtain⟨d0,d1,d2,d3,d4,d5,d6,d7,d8,d9⟩:=ya;obtain⟨z0,z1,z2,z3,z4,z5,z6,z7,z8,z9⟩:=yb;simp only at x0 x1 x2 x3 x4 x5 y0 y1 y2 y3 y4 y5 HSW;have hwq:(k:Int)+(r:Int)=((k+r:Nat):Int):=by omega
   have hq24:k+r<24:=by omega
   have hqc:k+r<lc.length:=by omega
   generalize k+r=q at *;have f:=fun(o:Nat)=>AJ (o:=o) hcs
   clear hbase hcs hrl;obtain⟨W1,hW1⟩:∃W1,W1=GN W0 qa (k*6) ⟨z0,z1,z2,z3,z4,z5,z6,z7,z8,z9⟩:=⟨_,rfl⟩;have hOy:OwnAt W.heap.size 33 6 Ej W1 (.slice (some ⟨qa,0,none⟩) lc.length cL2) (lc2.set k ⟨z0,z1,z2,z3,z4,z5,z6,z7,z8,z9⟩):=by rw[hW1];exact TP hO0.o hk2 ⟨z0,z1,z2,z3,z4,z5,z6,z7,z8,z9⟩
   have hBy:∀(b:Nat) (cs:Array Value) (t:TypeId),W0.heap[b]? = some (.cells cs t)→t≠33→W1.heap[b]? = some (.cells cs t):=fun b cs t hc ht=>by
    have e:qa≠b:=fun e=>OwnAt.other hO0.o hc ht (by rw[e];rfl)
    rw[hW1];exact(MS e).trans hc
   have hsw:=HSW.o W1 hOy hBy;have hgy:AA W (GN W1 qa (q*6) ⟨d0,d1,d2,d3,d4,d5,d6,d7,d8,d9⟩):=NW (by rw[hW1];exact NW (HG.o.trans hg0) HBS.o) HBS.o;obtain⟨-,cs1,hc1⟩:=OwnAt.block hOy rfl;have f1:=fun(o:Nat)=>AJ (o:=o) hc1
   have p1:=Ad.mk (AB hc1);obtain⟨qa',eqa,-,-,u0,u1,u2,u3,u4,u5⟩:=E8 hOy (i:=q) (by rw[List.length_set];exact hq);cases eqa;obtain⟨u9,hu9⟩:=A4H u0 u1 u2 u3 u4 u5;clear hOy hBy u0 u1 u2 u3 u4 u5 hc1 HSW;have HSW:=hY hsw;have HGY:=hY hgy;have hkn:(k:Int)<(lc.length:Int):=by omega
   have hqn:(q:Int)<(lc.length:Int):=by omega
   go_upto_region 15 with fail
   refine A2P wa W0 qa lc.length cL2 k q ⟨z0,z1,z2,z3,z4,z5,z6,z7,z8,z9⟩ ⟨d0,d1,d2,d3,d4,d5,d6,d7,d8,d9⟩ _ _ hW0 rfl rfl rfl hkn hqn pa x0 x1 x2 x3 x4 x5 y0 y1 y2 y3 y4 y5 f W1 hW1 p1 f1 u9 hu9 rfl rfl ?_;generalize (GN W1 qa (q*6) ⟨d0,d1,d2,d3,d4,d5,d6,d7,d8,d9⟩)=W2 at *;simp only[LZ,Ij,Dz,CO];go_wp2
   go_roundg (lc.length-(k+1))
   case measure=>omega
   case rel=>exact⟨k+1,_,_,by omega,by omega,by rw[List.length_set,List.length_set];exact hl2,by go_num,hY (AA.trans HGY.o gw),hY (DZ.grew HSW.o gw),HPM⟩
  ·obtain rfl:k=lc.length:=by omega
   go_upto_if 90 with fail
   iterate 4 go_step
   refine HNX.o _ _ lc2 L2 aL cL2 (HG.o.trans gw) ?_ ?_ ?_ HP.o
   ·exact⟨rfl,rfl,rfl,rfl,rfl⟩
   ·rw[hl2];rfl
   ·rw[hl2];exact HO.o.grew gw
end Go.Proofs.YtgebkpgilgppgaaGreat
