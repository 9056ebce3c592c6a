import Derived.Test.YtgebkpgilgppgaaGreatMw44
set_option linter.unusedSimpArgs false
set_option linter.unusedVariables false
set_option maxRecDepth 100000
set_option maxHeartbeats 64000000
namespace Go.Proofs.YtgebkpgilgppgaaGreat
open Go.RowKit Ga
theorem A3j(w W:World)(av:Option Addr)(cv:Nat)(g:List Gr.Nd)(ce:Option Addr)(cE:Nat)(cl:Option Addr)(cL:Nat)(cp:Option Addr)(cP:Nat)(wh:Wh)(x b P:Nat)(a5:Option Addr)(c5:Nat)(a6:Option Addr)(c6:Nat)(n:Nat)(m:List (Ca×CV))(Q:Exit→Act→World→Prop)(a0:Act)(base:Nat)(aL:Option Addr)(cL2:Nat)(lc:List CV)(L:List (Ca×Fq))
  (hA:JZ w av cv g ce cE cl cL cp cP wh) (hB:Ck w W av cv g ce cE cl cL cp cP wh x b P a5 c5 a6 c6 n m) (hF:Js w x P av cv g a0) (h11:a0.tmps.getD 11 undef = .slice aL lc.length cL2) (hn0:n=0) (hm0:m=[]) (hO:DZ base W (.slice aL lc.length cL2) lc L) (hP:L.Perm ((Af (Gr.normG g)).map fun t=>(t,ET (Gr.normG g) wh t)))
  (hret:∀a' w',Ow w a' w'→Q .ret a' w')
  (hnext:∀a' w',Ck w w' av cv g ce cE cl cL cp cP wh x b P a5 c5 a6 c6 lc.length (Cq lc)→DF w' (Gr.normG g) (Cq lc) (ET (Gr.normG g) wh)→Js w x P av cv g a'→Code.wp Tryz.prog (FO 26) Q a' w') :
  Code.wp Tryz.prog (FO 17) Q a0 W:=by
 obtain⟨hfr,h0,h4,h7,h9⟩:=hF;obtain⟨u,hu⟩:∃u:Nat→Value,u=fun i=>a0.tmps.getD i undef:=⟨_,rfl⟩
 rw[←hu] at hfr;have u0:u 0=_:=(congrFun hu 0).trans h0;have u4:u 4=_:=(congrFun hu 4).trans h4;have u7:u 7=_:=(congrFun hu 7).trans h7;have u9:u 9=_:=(congrFun hu 9).trans h9;have u11:u 11=_:=(congrFun hu 11).trans h11;clear hu h0 h4 h7 h9 h11;subst hfr
 conv=>arg 2;whnf
 unfold Ii;rw[u0,u4,u7,u9,u11];clear u0 u4 u7 u9 u11;subst hn0 hm0;have HA:=hY hA;have HB:=hY hB;have HRET:=hY hret;have HNX:=hY hnext;clear hA hB hret hnext;have HO0:=hY hO;have HP:=hY hP;have hr2:=FM HA.o.r;have hso:=Gr.normG_sorted g;have hlT:lc.length=(Af (Gr.normG g)).length:=by rw[BL.len hO.r,hP.length_eq,List.length_map]
 have htl:=De (Gr.normG g) fun n hn=>(DN hr2 n hn).1.2
 have hl8:=hr2.len;have HR2:=hY hr2;have HSO:=hY hso;have HLT:=hY hlT;have hlc24:lc.length≤24:=by omega
 clear hO hP hr2 hso hlT htl hl8;go_wp2
 go_loopg [125] lc.length (fun gg s125 wr=>∃k:Nat,k≤lc.length∧lc.length-k≤gg∧s125 = .int .i64 (k:Int)∧Hid (Ck w wr av cv g ce cE cl cL cp cP wh x b P a5 c5 a6 c6 k (Cq (lc.take k)))∧Hid (DZ base wr (.slice aL lc.length cL2) lc L))
 case atStart=>exact⟨0,by omega,by omega,rfl,hY (HB.o.grew gw),hY (HO0.o.grew gw)⟩
 case round =>
  obtain⟨k,hk,hgg,rfl,HBK,HO⟩:=hrel;rename World=>wa;by_cases hlt:k<lc.length
  ·obtain⟨hadd,hwho⟩:=Yc HR2.o HO.o.r HP.o HSO.o hlt;obtain⟨qa,eqa,-,pa,x0,x1,x2,x3,x4,x5⟩:=E8 HO.o.o hlt;subst eqa;have HTK:=hY (show Cq (lc.take (k+1))=_ by rw[List.take_succ_eq_append_getElem hlt,VN]);have HMW:=hY fun W2 (q:AA wa W2)=>YZ x b k (Gr.normG g) 9 (Cq (lc.take k)) ⟨0,0,a5,(Be g).toNat,c5,a6,(Gr.normG g).length,c6,none,0,0,none,0,0,none,0,0⟩ (.slice cp wh.plan.length cP) W2 (HBK.o.ga.grew q) (by omega) (by rw[Py,List.length_take,←HLT.o];omega)
   have HAD:=hY hadd;have HWH:=hY hwho;clear hadd hwho;generalize lc[k]=y at *;obtain⟨d0,d1,d2,d3,d4,d5,d6,d7,d8,d9⟩:=y;simp only at x0 x1 x2 x3 x4 x5 HMW;have b0:=cell_of (o:=0) (W:=wa) HBK.o.wb;have b1:=cell_of (o:=1) (W:=wa) HBK.o.wb;have b2:=cell_of (o:=2) (W:=wa) HBK.o.wb;have b3:=cell_of (o:=3) (W:=wa) HBK.o.wb;have b4:=cell_of (o:=4) (W:=wa) HBK.o.wb;have b5:=cell_of (o:=5) (W:=wa) HBK.o.wb;simp at b0 b1 b2 b3 b4 b5;have pbw:=Ad.mk (W:=wa) (AB HBK.o.wb);have p0:=cell_of (o:=0) (W:=wa) HBK.o.pb;have p1:=cell_of (o:=1) (W:=wa) HBK.o.pb;have p2:=cell_of (o:=2) (W:=wa) HBK.o.pb;have p3:=cell_of (o:=3) (W:=wa) HBK.o.pb;have p4:=cell_of (o:=4) (W:=wa) HBK.o.pb;have p5:=cell_of (o:=5) (W:=wa) HBK.o.pb;have p6:=cell_of (o:=6) (W:=wa) HBK.o.pb;simp at p0 p1 p2 p3 p4 p5 p6;have ppp:=Ad.mk (W:=wa) (AB HBK.o.pb)
   go_wp2_with (first
    | (go_at_call 11;((with_reducible refine Calls.mono (HMW.o _ ?_) ?_));(focus(exact gw));rintro e1 w1 ⟨rfl,R3,n3,rfl⟩)
    | fail)
   obtain⟨W5,hW5⟩:∃W5,W5=(((wa.alloc (.cells #[.int .i64 d0,.int .i64 d1,.int .i64 d2,.slice d3 d4 d5,.slice d6 d7 d8,.int .i64 d9] 33)).more R3 n3).alloc (.cells #[.int .i64 0,.int .i64 0,.slice none 0 0,.slice none 0 0,.slice none 0 0,.slice none 0 0,.slice none 0 0] 42)):=⟨_,rfl⟩;have HG5:Hid (AA wa W5):=hY (by rw[hW5];exact gw);rw[←hW5];clear hW5;refine(UK w W5 x b k (Gr.normG g) 9 _ ⟨d0,d1,d2,d3,d4,d5,d6,d7,d8,d9⟩ (HBK.o.ga.grew HG5.o) (HBK.o.gr.trans HG5.o) HBK.o.bw (by omega) HWH.o).mono ?_;rintro e4 w4 ⟨rfl,-,h4⟩;obtain⟨h5,h6,h7⟩:=h4 HAD.o;rw[HAD.o];have H5:=hY h5;have H6:=hY h6;have H7:=hY h7;clear h4 h5 h6 h7
   go_wp2_with fail
   go_roundg (lc.length-(k+1))
   case measure=>omega
   case rel=>exact⟨k+1,by omega,by omega,by go_num,hY (by rw[HTK.o];exact Ck.grew (Ck.keep (HBK.o.grew HG5.o) H6.o H7.o H5.o) gw),hY (DZ.grew (DZ.keep (HO.o.grew HG5.o) H7.o (Dc (HBK.o.ga.grew HG5.o).map)) gw)⟩
  ·obtain rfl:k=lc.length:=by omega
   rw[List.take_length] at HBK;have hall:=Yb HO.o.r HP.o HSO.o;have HALL:=hY hall;clear hall
   go_upto_if 126 with fail
   iterate 4 go_step
   refine HNX.o _ _ (HBK.o.grew gw) (HALL.o.grew gw) ?_;exact⟨rfl,rfl,rfl,rfl,rfl⟩
end Go.Proofs.YtgebkpgilgppgaaGreat
