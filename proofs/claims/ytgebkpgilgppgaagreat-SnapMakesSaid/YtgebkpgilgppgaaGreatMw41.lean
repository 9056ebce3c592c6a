import Derived.Test.YtgebkpgilgppgaaGreatMw39
import Derived.Test.YtgebkpgilgppgaaGreatMw9
import Derived.Deep.LoopGhost
import Derived.Deep.QuietTactic
import Derived.BigQuiet
set_option linter.unusedSimpArgs false
set_option linter.unusedVariables false
set_option maxRecDepth 100000
set_option maxHeartbeats 64000000
namespace Go.Proofs.YtgebkpgilgppgaaGreat
open Go.RowKit Ga
theorem OD(av:Option Addr)(cv:Nat)(g:List Gr.Nd)(ce:Option Addr)(cE:Nat)(cl:Option Addr)(cL:Nat)(cp:Option Addr)(cP:Nat)(wh:Wh)(w:World)(hv:AV w (.slice av g.length cv) g)(hw:UJ w ce cE cl cL cp cP wh)(hr:Gr.RightR g)(he:wh.ents.length≤60)(hl:wh.lines.length≤60):
  Calls Tryz.prog 10 #[.slice av g.length cv,.agg #[.slice ce wh.ents.length cE,.slice cl wh.lines.length cL,.int .i64 wh.o0,.int .i64 wh.o1,.int .i64 wh.o2,.slice cp wh.plan.length cP]] w (A1I w (Ak g wh 8)):=by
 have HV:=hY hv;have HWI:=hY hw;have HPAR:=hY (DN hr);have HUL:=hY (EX wh fun n hn=>((DN hr) n hn).1.2);have HFI:=hY fun id W (q:AA w W)=>BB _ g id W (hv.grew q)
 clear hv hw hr;go_enter Tryz.func10,Tryz.ntmps10;go_wp2
 go_loopg [5,6] 8 (fun gg s5 s6 wr=>∃(id:Nat) (lc:List CV),id≤8∧8-id≤gg∧s6 = .int .i64 (id:Int)∧Hid (FZ w wr s5 lc (Ak g wh id))∧Hid (wr.heap[w.heap.size]? = some (.cells #[.slice ce wh.ents.length cE,.slice cl wh.lines.length cL,.int .i64 wh.o0,.int .i64 wh.o1,.int .i64 wh.o2,.slice cp wh.plan.length cP] 28)))
 case atStart=>exact⟨0,[],by omega,by omega,rfl,hY ⟨gw,OwnAt.nil _,trivial⟩,hY (AC gw (AO w _ _ rfl))⟩
 case round =>
  obtain⟨id,lc,hid8,hgg,rfl,HS,HBW⟩:=hrel;rename World=>wa;by_cases hlt:id<8
  ·have HSU:=hY (Md g wh id);have hul:=HUL.o id;have hlen:=BL.len HS.o.r;have HF2:=hY fun W (q:AA wa W)=>HFI.o (id:Int) W (HS.o.g.trans q)
   cases hf:Gr.find g (id:Int) with
   |none =>
    have hno:Gr.nodeOf g (id:Int)=none:=by unfold Gr.nodeOf;rw[hf];rfl
    have HNS:Hid (Ak g wh (id+1)=Ak g wh id):=hY (by rw[HSU.o,hno];exact List.append_nil _);have HI:=hY (DC hf);clear hf hno hul hlen
    go_wp2_with (go_at_call 16;refine(HF2.o _ gw).mono ?_;rintro e w1 ⟨rfl,hw1⟩;obtain rfl:=hw1.symm;rw[HI.o])
    go_roundg (8-(id+1))
    case measure=>omega
    case rel=>exact⟨id+1,lc,by omega,by omega,by go_num,hY (by rw[HNS.o];exact HS.o.grew gw),hY (AC gw HBW.o)⟩
   |some fi =>
    obtain⟨hfi,hil⟩:=Ct hf;have hno:Gr.nodeOf g (id:Int)=some g[fi]:=by unfold Gr.nodeOf;rw[hf];exact List.getElem?_eq_getElem hil
    have hid2:=(Gr.nodeOf_some hno).2;have HNS:Hid (Ak g wh (id+1)=Ak g wh id++Hu wh g[fi] g[fi].par.toNat):=hY (by rw[HSU.o,hno];rfl);have HI:=hY hfi;obtain⟨⟨p1,p3⟩,-⟩:=HPAR.o _ (List.getElem_mem hil);have HN:=hY hno;clear hf hno hfi HSU;obtain⟨a',cap',e,-,hx⟩:=HV.o.openC;injection e with e1 e2 e3
    obtain⟨b,off,c,ha,hb,hn,c0,c1,c2,c3,c4,c5,c6,c7,c8,c9,c10,c11,c12⟩:=hx fi hil;obtain rfl:av=some ⟨b,off,none⟩:=e1.trans ha;have hrl:=hn.route;have hid:=hn.id;have hpar:=hn.par;have hkind:=hn.kind;clear hx e1 e2 e3 ha;generalize hy:g[fi]=y at *;obtain⟨cid,kind,af,nf,cf,apr,np,cpr,par,r0,r1,r2,r3,r4,r5,r6,r7⟩:=c;simp only at c0 c1 c2 c3 c4 c5 c6 c7 c8 c9 c10 c11 c12 hid hpar hrl hkind;obtain⟨p,hp⟩:∃p:Nat,par=(p:Int):=⟨par.toNat,by omega⟩;subst hp;have hpn:y.par.toNat=p:=by omega
    have HPN:=hY hpn;have hp3:p≤3:=by omega
    have HID:Hid (y.id=(id:Int)):=hY hid2;have HTO:Hid (∀ky:Int,Gr.taskOf y ky=[r0,r1,r2,r3,r4,r5,r6,r7].getD (ky%8).toNat 0):=hY fun ky=>by unfold Gr.taskOf;rw[hrl]
    have HC4:Hid (∀W,AA w W→W.cell? ⟨b,off+fi*13+4,none⟩=some (.int .i64 (p:Int))∧W.cell? ⟨b,off+fi*13+1,none⟩=some (.int .i64 kind)∧Ad b W):=hY fun W q=>⟨BD q c4,BD q c1,Ad.ofCell (BD q c1)⟩
    have HCG:Hid (∀W,AA w W→∀gi,gi<8→∀tv,[r0,r1,r2,r3,r4,r5,r6,r7].getD gi 0=tv→W.cell? ⟨b,off+fi*13+5+gi,none⟩=some (.int .i64 tv)):=hY fun W q gi hg8 tv h=>by
     refine BD q ?_;rw[←h];rcases (show gi=0∨gi=1∨gi=2∨gi=3∨gi=4∨gi=5∨gi=6∨gi=7 by omega) with rfl|rfl|rfl|rfl|rfl|rfl|rfl|rfl
     ·exact c5
     ·exact c6
     ·exact c7
     ·exact c8
     ·exact c9
     ·exact c10
     ·exact c11
     ·exact c12
    have HLE:Hid ((Ak g wh id).length=lc.length):=hY (BL.len HS.o.r).symm;have hlc:lc.length≤24:=by omega
    have hkd:y.kind=kind:=hkind;have HKD:=hY hkd;have hil':=hil;clear c0 c1 c2 c3 c4 c5 c6 c7 c8 c9 c10 c11 c12 hid hpar hn hrl hy hkind hkd hid2 p1 p3 hpn hul hlen HPAR HUL HFI;obtain⟨k4,k1,kb⟩:=HC4.o wa HS.o.g
    go_wp2_with (go_at_call 16;refine(HF2.o _ gw).mono ?_;rintro e w1 ⟨rfl,hw1⟩;obtain rfl:=hw1.symm;rw[HI.o])
    go_loopg [5,8] p (fun gg2 s5' s8 wr2=>∃(k:Nat) (lc2:List CV),k≤p∧p-k≤gg2∧s8 = .int .i64 (k:Int)∧Hid (FZ w wr2 s5' lc2 (Ak g wh id++Hu wh y k))∧Hid (wr2.heap[w.heap.size]? = some (.cells #[.slice ce wh.ents.length cE,.slice cl wh.lines.length cL,.int .i64 wh.o0,.int .i64 wh.o1,.int .i64 wh.o2,.slice cp wh.plan.length cP] 28)))
    case atStart=>exact⟨0,lc,by omega,by omega,rfl,hY (by rw[show Hu wh y 0=[] from rfl,List.append_nil];exact HS.o.grew gw),hY (AC gw HBW.o)⟩
    case round =>
     obtain⟨k,lc2,hk,hgg2,rfl,HS2,HBX⟩:=hrel;rename World=>wb;clear k4 k1 kb;obtain⟨k4,k1,kb⟩:=HC4.o wb HS2.o.g;by_cases hlt2:k<p
     ·have hl2:=BL.len HS2.o.r;rw[List.length_append,QQ,HLE.o] at hl2;have hlc2:lc2.length≤100:=by omega
      have hbx:=HBX.o;have b0:=cell_of (o:=0) hbx;have b1:=cell_of (o:=1) hbx
      have bk:wb.cell? ⟨w.heap.size,2+k,none⟩=some (.int .i64 (wh.off k)):=by
       rw[cell_of hbx];rcases (show k=0∨k=1∨k=2 by omega) with rfl|rfl|rfl<;>rfl
      simp at b0 b1;have pbx:=Ad.mk (AB hbx);clear hl2 hbx;by_cases k0:kind=0
      ·subst k0;have HAP:Hid (J3 wh y k=⟨[],[],wh.off k⟩):=hY (by simp[J3,HKD.o])
       have HAK:Hid (∀W,J8 W ⟨(id:Int),(k:Int),9,none,0,0,none,0,0,wh.off k⟩ (J3 wh y k)):=hY fun W=>by
        rw[HAP.o];exact⟨rfl,⟨0,OwnAt.nil _⟩,⟨0,OwnAt.nil _⟩,by simp,by simp⟩
       generalize wh.off k=ofk at *
       go_wp2_with (at_builtin;go_loud (refine Am (w0:=w) rfl (.tmp 121) (.tmp 123) 34 _ _ _ _ [⟨(id:Int),(k:Int),9,none,0,0,none,0,0,ofk⟩] rfl Tryz.underlying34 WJ rfl (by decide) EW Li rfl (OwnAt.grew HS2.o.o gw) (HS2.o.g.trans gw) rfl (A1J _ _ _ _ rfl (by simp[go_sem])) (by simp;omega) (by decide) (by simp) ?_);intro v8 W8 hA;(have HA:=hY hA);clear hA)
       go_roundg (p-(k+1))
       case measure=>omega
       case rel =>
        have hs:=(HS2.o.grew gw).add (y:=((y.id,(k:Int)),J3 wh y k)) HA.o ⟨HID.o.symm,rfl,rfl,J8.grew (HAK.o wb) gw⟩;exact⟨k+1,lc2++[⟨(id:Int),(k:Int),9,none,0,0,none,0,0,ofk⟩],by omega,by omega,by go_num,hY (by rw[J4,←List.append_assoc];exact hs),hY (Cn (OwnAt.grew HS2.o.o gw) (AC gw HBX.o) (by decide) HA.o)⟩
      have kb0:(kind==0)=false:=by simpa using k0
      by_cases k1':kind=1
      ·subst k1';go_wp2
       go_loopg [88] wh.ents.length (fun gg3 s88 wr3=>∃(i:Nat) (v9:Value),i≤wh.ents.length∧wh.ents.length-i≤gg3∧s88 = .int .i64 i∧Hid (AA wb wr3)∧Hid (wr3.heap[wb.heap.size]? = some (.cells #[.int .i64 (id:Int),.int .i64 (k:Int),.int .i64 9,v9,.slice none 0 0,.int .i64 0] 33))∧Hid (OwnAt wb.heap.size 57 6 Ci wr3 v9 ((wh.ents.take i).filter (OE y k))))
       case atStart=>exact⟨0,.slice none 0 0,by omega,by omega,rfl,hY gw,hY (AC gw (AO wb _ _ rfl)),hY (OwnAt.nil _)⟩
       case round =>
        obtain⟨i,v9,hi,hgg3,rfl,HG3,HB3,HO3⟩:=hrel;rename World=>wv;by_cases hlt3:i<wh.ents.length
        ·obtain⟨a',cap',e,-,hx⟩:=Bp.open6 (HWI.o.e.grew (HS2.o.g.trans HG3.o));injection e with e1 e2 e3
         obtain⟨be,offe,ha,hbe,g0,g1,g2,g3,g4,g5⟩:=hx i hlt3;obtain rfl:ce=some ⟨be,offe,none⟩:=e1.trans ha;have HTE:=hY (A1K hlt3 y k);have hql:((wh.ents.take i).filter (OE y k)).length≤60:=Nat.le_trans (List.length_filter_le _ _) (by rw[List.length_take];omega);have HQL:=hY hql;clear hx e1 e2 e3 ha hql;generalize wh.ents[i]=x at *;obtain⟨xn,ky,⟨p0,q0⟩,⟨p1,q1⟩⟩:=x;simp only at g0 g1 g2 g3 g4 g5 HTE;obtain⟨-,-,pb⟩:=HC4.o wv (HS2.o.g.trans HG3.o);by_cases hid2:xn=(id:Int)
         case neg =>
          have hne:(xn==(id:Int))=false:=by simpa using hid2
          have HSK:Hid ((wh.ents.take (i+1)).filter (OE y k)=(wh.ents.take i).filter (OE y k)):=hY (by rw[HTE.o,if_neg (by simp[OE,HID.o,hid2]),List.append_nil]);clear hid2
          go_upto_region 24 with fail
          go_quiet (fail)
          go_wp2
          go_roundg (wh.ents.length-(i+1))
          case measure=>omega
          case rel=>exact⟨i+1,v9,by omega,by omega,by go_num,hY (HG3.o.trans gw),hY (AC gw HB3.o),hY (by rw[HSK.o];exact OwnAt.grew HO3.o gw)⟩
         subst hid2;cases hd:decide (0≤ky)
         case false =>
          have HD:=hY hd;have HSK:Hid ((wh.ents.take (i+1)).filter (OE y k)=(wh.ents.take i).filter (OE y k)):=hY (by rw[HTE.o,if_neg (by simp[OE,hd]),List.append_nil]);have hd2:=HD.o;clear hd
          go_upto_region 24 with fail
          go_quiet (fail)
          go_wp2
          go_roundg (wh.ents.length-(i+1))
          case measure=>omega
          case rel=>exact⟨i+1,v9,by omega,by omega,by go_num,hY (HG3.o.trans gw),hY (AC gw HB3.o),hY (by rw[HSK.o];exact OwnAt.grew HO3.o gw)⟩
         have hky:0≤ky:=of_decide_eq_true hd;obtain⟨gi,hg⟩:∃gi:Nat,(ky%8).toNat=gi:=⟨_,rfl⟩;have hg8:gi<8:=by omega
         have htm:ky.tmod 8=(gi:Int):=by rw[Int.tmod_eq_emod_of_nonneg hky];omega
         have hto:=HTO.o ky;rw[hg] at hto;obtain⟨tv,htv⟩:∃tv,[r0,r1,r2,r3,r4,r5,r6,r7].getD gi 0=tv:=⟨_,rfl⟩;rw[htv] at hto;have cgv:=HCG.o wv (HS2.o.g.trans HG3.o) gi hg8 tv htv;have HTV:=hY hto;have HD:=hY hd;clear hto htv hg hky hd;have hd:=HD.o;by_cases h5:tv=(k:Int)
         case neg =>
          have hne:(tv==(k:Int))=false:=by simpa using h5
          have HSK:Hid ((wh.ents.take (i+1)).filter (OE y k)=(wh.ents.take i).filter (OE y k)):=hY (by rw[HTE.o,if_neg (by simp[OE,HTV.o,h5]),List.append_nil]);clear h5
          go_upto_region 24 with fail
          go_quiet (fail)
          go_wp2
          go_roundg (wh.ents.length-(i+1))
          case measure=>omega
          case rel=>exact⟨i+1,v9,by omega,by omega,by go_num,hY (HG3.o.trans gw),hY (AC gw HB3.o),hY (by rw[HSK.o];exact OwnAt.grew HO3.o gw)⟩
         have HSK:Hid ((wh.ents.take (i+1)).filter (OE y k)=(wh.ents.take i).filter (OE y k)++[⟨(id:Int),ky,(p0,q0),(p1,q1)⟩]):=hY (by rw[HTE.o,if_pos (by simp[OE,HID.o,HTV.o,h5,of_decide_eq_true HD.o])]);subst h5;generalize (wh.ents.take i).filter (OE y k)=q at *;have m3:=cell_of (o:=3) HB3.o;simp at m3;have pm:=Ad.mk (AB HB3.o);have hql:=HQL.o
         go_upto_region 24 with fail
         go_quiet (fail)
         go_wp2_with (at_builtin;go_loud (refine Am (w0:=wb) rfl (.tmp 115) (.tmp 117) 23 _ _ _ _ [⟨(id:Int),ky,(p0,q0),(p1,q1)⟩] rfl Tryz.underlying23 Mv rfl (by decide) Az E5 rfl (OwnAt.grew HO3.o gw) (HG3.o.trans gw) rfl (Wj _ _ _ _ rfl (by first|rfl|simp[go_sem])) (by simp;omega) (by decide) (by simp) ?_);go_loud (intro v7 W7 hA;(obtain⟨a7,c7,hv7⟩:=(OwnAt.rows hA.2.1 Az).len);(obtain⟨n7,hn7⟩:∃n7,(q++([⟨(id:Int),ky,(p0,q0),(p1,q1)⟩]:List Tab.En)).length=n7:=⟨_,rfl⟩);(rw[hn7] at hv7);(subst hv7);(clear hn7);(have hm7:=Cn (OwnAt.grew HO3.o gw) (AC gw HB3.o) (by decide) hA);(obtain⟨u7,hu7⟩:∃u,W7.cell? ⟨wb.heap.size,3,none⟩=some u:=⟨_,(cell_of hm7).trans rfl⟩);(have f7:=AJ (o:=3) hm7);(have p7:=Ad.mk (AB hm7));(have HM7:=hY hm7);(have HA:=hY hA);clear hA hm7))
         go_roundg (wh.ents.length-(i+1))
         case measure=>omega
         case rel =>
          obtain⟨q1,q2,q3⟩:=RH (o:=3) (OwnAt.grew HO3.o gw) (AC gw HB3.o) (Nat.le_refl _) (by decide) HA.o;exact⟨i+1,_,by omega,by omega,by go_num,hY q1,hY q2,hY (by rw[HSK.o];exact q3)⟩
        ·obtain rfl:i=wh.ents.length:=by omega
         have ho:=HO3.o;rw[List.take_length] at ho;obtain⟨aw,cw,rfl⟩:=(OwnAt.rows ho Az).len;have hql:(wh.ents.filter (OE y k)).length≤60:=Nat.le_trans (List.length_filter_le _ _) (by omega);have HQ9:=hY ho;have HQL:=hY hql;clear ho hql;have hb9:=HB3.o;have HAP:Hid (J3 wh y k=⟨wh.ents.filter (OE y k),[],0⟩):=hY (by simp[J3,HKD.o])
         have HAK:Hid (J8 wv ⟨(id:Int),(k:Int),9,aw,(wh.ents.filter (OE y k)).length,cw,none,0,0,0⟩ (J3 wh y k)):=hY (by
          rw[HAP.o]
          exact⟨rfl,⟨_,HQ9.o⟩,⟨0,OwnAt.nil _⟩,Nat.le_trans HQL.o (by decide),by simp⟩)
         generalize wh.ents.filter (OE y k)=q at *;have m0:=cell_of (o:=0) hb9;have m1:=cell_of (o:=1) hb9;have m2:=cell_of (o:=2) hb9;have m3:=cell_of (o:=3) hb9;have m4:=cell_of (o:=4) hb9;have m5:=cell_of (o:=5) hb9;simp at m0 m1 m2 m3 m4 m5;have pm:=Ad.mk (AB hb9);have HB9:=hY hb9;clear hb9
         go_wp2_with (at_builtin;go_loud (refine Am (w0:=w) rfl (.tmp 121) (.tmp 123) 34 _ _ _ _ [⟨(id:Int),(k:Int),9,aw,q.length,cw,none,0,0,0⟩] rfl Tryz.underlying34 WJ rfl (by decide) EW Li rfl (OwnAt.grew HS2.o.o (HG3.o.trans gw)) (HS2.o.g.trans (HG3.o.trans gw)) rfl (A1J _ _ _ _ rfl (by simp[go_sem])) (by simp;omega) (by decide) (by simp) ?_);intro v8 W8 hA;(have HA:=hY hA);clear hA)
         go_roundg (p-(k+1))
         case measure=>omega
         case rel =>
          have hs:=(HS2.o.grew (HG3.o.trans gw)).add (y:=((y.id,(k:Int)),J3 wh y k)) HA.o ⟨HID.o.symm,rfl,rfl,J8.grew HAK.o gw⟩;exact⟨k+1,lc2++[⟨(id:Int),(k:Int),9,aw,q.length,cw,none,0,0,0⟩],by omega,by omega,by go_num,hY (by rw[J4,←List.append_assoc];exact hs),hY (Cn (OwnAt.grew HS2.o.o (HG3.o.trans gw)) (AC (HG3.o.trans gw) HBX.o) (by decide) HA.o)⟩
      have kb1:(kind==1)=false:=by simpa using k1'
      go_wp2
      go_loopg [43] wh.lines.length (fun gg3 s43 wr3=>∃(i:Nat) (v9:Value),i≤wh.lines.length∧wh.lines.length-i≤gg3∧s43 = .int .i64 i∧Hid (AA wb wr3)∧Hid (wr3.heap[wb.heap.size]? = some (.cells #[.int .i64 (id:Int),.int .i64 (k:Int),.int .i64 9,.slice none 0 0,v9,.int .i64 0] 33))∧Hid (OwnAt wb.heap.size 92 5 Dp wr3 v9 ((wh.lines.take i).filter (OG y k))))
      case atStart=>exact⟨0,.slice none 0 0,by omega,by omega,rfl,hY gw,hY (AC gw (AO wb _ _ rfl)),hY (OwnAt.nil _)⟩
      case round =>
       obtain⟨i,v9,hi,hgg3,rfl,HG3,HB3,HO3⟩:=hrel;rename World=>wv;by_cases hlt3:i<wh.lines.length
       ·obtain⟨a',cap',e,-,hx⟩:=Hm.open5 (HWI.o.l.grew (HS2.o.g.trans HG3.o));injection e with e1 e2 e3
        obtain⟨be,offe,ha,hbe,g0,g1,g2,g3,g4⟩:=hx i hlt3;obtain rfl:cl=some ⟨be,offe,none⟩:=e1.trans ha;have HTE:=hY (A1L hlt3 y k);have hql:((wh.lines.take i).filter (OG y k)).length≤60:=Nat.le_trans (List.length_filter_le _ _) (by rw[List.length_take];omega);have HQL:=hY hql;clear hx e1 e2 e3 ha hql;generalize wh.lines[i]=x at *;obtain⟨xn,xf,ky,⟨p0,q0⟩⟩:=x;simp only at g0 g1 g2 g3 g4 HTE;obtain⟨-,-,pb⟩:=HC4.o wv (HS2.o.g.trans HG3.o);by_cases hid2:xn=(id:Int)
        case neg =>
         have hne:(xn==(id:Int))=false:=by simpa using hid2
         have HSK:Hid ((wh.lines.take (i+1)).filter (OG y k)=(wh.lines.take i).filter (OG y k)):=hY (by rw[HTE.o,if_neg (by simp[OG,HID.o,hid2]),List.append_nil]);clear hid2
         go_upto_region 15 with fail
         go_quiet (fail)
         go_wp2
         go_roundg (wh.lines.length-(i+1))
         case measure=>omega
         case rel=>exact⟨i+1,v9,by omega,by omega,by go_num,hY (HG3.o.trans gw),hY (AC gw HB3.o),hY (by rw[HSK.o];exact OwnAt.grew HO3.o gw)⟩
        subst hid2;cases hd:decide (0≤ky)
        case false =>
         have HD:=hY hd;have HSK:Hid ((wh.lines.take (i+1)).filter (OG y k)=(wh.lines.take i).filter (OG y k)):=hY (by rw[HTE.o,if_neg (by simp[OG,hd]),List.append_nil]);have hd2:=HD.o;clear hd
         go_upto_region 15 with fail
         go_quiet (fail)
         go_wp2
         go_roundg (wh.lines.length-(i+1))
         case measure=>omega
         case rel=>exact⟨i+1,v9,by omega,by omega,by go_num,hY (HG3.o.trans gw),hY (AC gw HB3.o),hY (by rw[HSK.o];exact OwnAt.grew HO3.o gw)⟩
        have hky:0≤ky:=of_decide_eq_true hd;obtain⟨gi,hg⟩:∃gi:Nat,(ky%8).toNat=gi:=⟨_,rfl⟩;have hg8:gi<8:=by omega
        have htm:ky.tmod 8=(gi:Int):=by rw[Int.tmod_eq_emod_of_nonneg hky];omega
        have hto:=HTO.o ky;rw[hg] at hto;obtain⟨tv,htv⟩:∃tv,[r0,r1,r2,r3,r4,r5,r6,r7].getD gi 0=tv:=⟨_,rfl⟩;rw[htv] at hto;have cgv:=HCG.o wv (HS2.o.g.trans HG3.o) gi hg8 tv htv;have HTV:=hY hto;have HD:=hY hd;clear hto htv hg hky hd;have hd:=HD.o;by_cases h5:tv=(k:Int)
        case neg =>
         have hne:(tv==(k:Int))=false:=by simpa using h5
         have HSK:Hid ((wh.lines.take (i+1)).filter (OG y k)=(wh.lines.take i).filter (OG y k)):=hY (by rw[HTE.o,if_neg (by simp[OG,HTV.o,h5]),List.append_nil]);clear h5
         go_upto_region 15 with fail
         go_quiet (fail)
         go_wp2
         go_roundg (wh.lines.length-(i+1))
         case measure=>omega
         case rel=>exact⟨i+1,v9,by omega,by omega,by go_num,hY (HG3.o.trans gw),hY (AC gw HB3.o),hY (by rw[HSK.o];exact OwnAt.grew HO3.o gw)⟩
        have HSK:Hid ((wh.lines.take (i+1)).filter (OG y k)=(wh.lines.take i).filter (OG y k)++[⟨(id:Int),xf,ky,(p0,q0)⟩]):=hY (by rw[HTE.o,if_pos (by simp[OG,HID.o,HTV.o,h5,of_decide_eq_true HD.o])]);subst h5;generalize (wh.lines.take i).filter (OG y k)=q at *;have m4:=cell_of (o:=4) HB3.o;simp at m4;have pm:=Ad.mk (AB HB3.o);have hql:=HQL.o
        go_upto_region 15 with fail
        go_quiet (fail)
        go_wp2_with (at_builtin;go_loud (refine Am (w0:=wb) rfl (.tmp 70) (.tmp 72) 24 _ _ _ _ [⟨(id:Int),xf,ky,(p0,q0)⟩] rfl Tryz.underlying24 Ms rfl (by decide) Bt JF rfl (OwnAt.grew HO3.o gw) (HG3.o.trans gw) rfl (A3v _ _ _ _ rfl (by first|rfl|simp[go_sem])) (by simp;omega) (by decide) (by simp) ?_);go_loud (intro v7 W7 hA;(obtain⟨a7,c7,hv7⟩:=(OwnAt.rows hA.2.1 Bt).len);(obtain⟨n7,hn7⟩:∃n7,(q++([⟨(id:Int),xf,ky,(p0,q0)⟩]:List Gr.Ln)).length=n7:=⟨_,rfl⟩);(rw[hn7] at hv7);(subst hv7);(clear hn7);(have hm7:=Cn (OwnAt.grew HO3.o gw) (AC gw HB3.o) (by decide) hA);(obtain⟨u7,hu7⟩:∃u,W7.cell? ⟨wb.heap.size,4,none⟩=some u:=⟨_,(cell_of hm7).trans rfl⟩);(have f7:=AJ (o:=4) hm7);(have p7:=Ad.mk (AB hm7));(have HM7:=hY hm7);(have HA:=hY hA);clear hA hm7))
        go_roundg (wh.lines.length-(i+1))
        case measure=>omega
        case rel =>
         obtain⟨q1,q2,q3⟩:=RH (o:=4) (OwnAt.grew HO3.o gw) (AC gw HB3.o) (Nat.le_refl _) (by decide) HA.o;exact⟨i+1,_,by omega,by omega,by go_num,hY q1,hY q2,hY (by rw[HSK.o];exact q3)⟩
       ·obtain rfl:i=wh.lines.length:=by omega
        have ho:=HO3.o;rw[List.take_length] at ho;obtain⟨aw,cw,rfl⟩:=(OwnAt.rows ho Bt).len;have hql:(wh.lines.filter (OG y k)).length≤60:=Nat.le_trans (List.length_filter_le _ _) (by omega);have HQ9:=hY ho;have HQL:=hY hql;clear ho hql;have hb9:=HB3.o;have HAP:Hid (J3 wh y k=⟨[],wh.lines.filter (OG y k),0⟩):=hY (by simp[J3,HKD.o,k0,k1'])
        have HAK:Hid (J8 wv ⟨(id:Int),(k:Int),9,none,0,0,aw,(wh.lines.filter (OG y k)).length,cw,0⟩ (J3 wh y k)):=hY (by
         rw[HAP.o]
         exact⟨rfl,⟨0,OwnAt.nil _⟩,⟨_,HQ9.o⟩,by simp,Nat.le_trans HQL.o (by decide)⟩)
        generalize wh.lines.filter (OG y k)=q at *;have m0:=cell_of (o:=0) hb9;have m1:=cell_of (o:=1) hb9;have m2:=cell_of (o:=2) hb9;have m3:=cell_of (o:=3) hb9;have m4:=cell_of (o:=4) hb9;have m5:=cell_of (o:=5) hb9;simp at m0 m1 m2 m3 m4 m5;have pm:=Ad.mk (AB hb9);have HB9:=hY hb9;clear hb9
        go_wp2_with (at_builtin;go_loud (refine Am (w0:=w) rfl (.tmp 121) (.tmp 123) 34 _ _ _ _ [⟨(id:Int),(k:Int),9,none,0,0,aw,q.length,cw,0⟩] rfl Tryz.underlying34 WJ rfl (by decide) EW Li rfl (OwnAt.grew HS2.o.o (HG3.o.trans gw)) (HS2.o.g.trans (HG3.o.trans gw)) rfl (A1J _ _ _ _ rfl (by simp[go_sem])) (by simp;omega) (by decide) (by simp) ?_);intro v8 W8 hA;(have HA:=hY hA);clear hA)
        go_roundg (p-(k+1))
        case measure=>omega
        case rel =>
         have hs:=(HS2.o.grew (HG3.o.trans gw)).add (y:=((y.id,(k:Int)),J3 wh y k)) HA.o ⟨HID.o.symm,rfl,rfl,J8.grew HAK.o gw⟩;exact⟨k+1,lc2++[⟨(id:Int),(k:Int),9,none,0,0,aw,q.length,cw,0⟩],by omega,by omega,by go_num,hY (by rw[J4,←List.append_assoc];exact hs),hY (Cn (OwnAt.grew HS2.o.o (HG3.o.trans gw)) (AC (HG3.o.trans gw) HBX.o) (by decide) HA.o)⟩
     ·obtain rfl:k=p:=by omega
      go_wp2
      go_roundg (8-(id+1))
      case measure=>omega
      case rel=>exact⟨id+1,lc2,by omega,by omega,by go_num,hY (by rw[HNS.o,HPN.o];exact HS2.o.grew gw),hY (AC gw HBX.o)⟩
  ·obtain rfl:id=8:=by omega
   obtain⟨a5,c5,rfl⟩:=(OwnAt.rows HS.o.o EW).len;go_wp2;go_ret;exact⟨a5,c5,lc,rfl,HS.o.grew gw⟩
end Go.Proofs.YtgebkpgilgppgaaGreat
