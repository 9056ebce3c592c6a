import Derived.Test.YtgebkpgilgppgaaGreatMw39
import Derived.Test.YtgebkpgilgppgaaGreatMw38
import Derived.Test.YtgebkpgilgppgaaGreatMw35
import Derived.Test.YtgebkpgilgppgaaGreatMw19
set_option linter.unusedSimpArgs false
set_option linter.unusedVariables false
set_option maxRecDepth 100000
set_option maxHeartbeats 64000000
namespace Go.Proofs.YtgebkpgilgppgaaGreat
open Go.RowKit Ga
theorem Kr(c:Dy)(m:Gr.Mf)(w:World)(h:Dl w c m)(ho:m.out.length≤3000)(hr:Gr.RightM BF m): Calls Tryz.prog 19 #[.agg #[.int .i64 c.epoch,.int .i64 c.plans,.slice c.ao c.no c.co,.slice c.ag c.ng c.cg,.slice c.ae c.ne c.ce,.slice c.ax c.nx c.cx,.slice c.ap c.np c.cp]] w (Ac (str (Gr.putM BZ m)) w):=by
 have h8:=TC h.g;have he512:=A0f hr;obtain⟨ho1,ho3⟩:=A0g hr h8;have HEF:=hY (A0e hr);have HLF:=hY (A2F hr);have HOF:Hid (∀x∈m.offs,Oc.fitsN x=true):=hY fun x hx=>by have:=hr.o4 x hx;exact BG (by omega) (by omega)
 have f1:Oc.fitsN m.epoch=true:=by have:=hr.ep;exact BG (by omega) (by omega)
 have f2:Oc.fitsN m.plans=true:=by have:=hr.pl;exact BG (by omega) (by omega)
 have f3:Oc.fitsN (m.offs.length:Int)=true:=BG (by omega) (by omega);have f4:Oc.fitsN (m.ents.length:Int)=true:=BG (by omega) (by omega);have f5:Oc.fitsN (m.out.length:Int)=true:=BG (by omega) (by omega);have HOKB:=hY (Pw hr.gr h8);have HGS:=hY (VP hr);have HPN:=hY (show m.plan=[]∨Gr.OkPl BF m.plan from hr.pn.imp id fun q=>q.1);have HEQ:=hY (A2G m);have hgl:=hr.gr.len;have HGL:(Gr.putG BZ m.graph).length≤3000:=A0L hr.gr h8;have e1:=h.epoch;have e2:=h.plans;have HO:=hY h.o;have HG:=hY h.g;have HE:=hY h.e;have HX:=hY h.x;have HP:=hY h.p;obtain⟨ep,pl,ao,co,ag,cg,ae,ce,ax,cx,ap,cp,rfl⟩:=h.lit;simp only at e1 e2 HO HG HE HX HP;rw[e1] at HEQ f1;rw[e2] at HEQ f2;clear h hr h8 e1 e2;show Calls Tryz.prog _ #[.agg #[.int .i64 ep,.int .i64 pl,.slice ao m.offs.length co,.slice ag m.graph.length cg,.slice ae m.ents.length ce,.slice ax m.out.length cx,.slice ap m.plan.length cp]] w _;have HBX0:=hY (AO w (.cells #[.int .i64 ep,.int .i64 pl,.slice ao m.offs.length co,.slice ag m.graph.length cg,.slice ae m.ents.length ce,.slice ax m.out.length cx,.slice ap m.plan.length cp] 42) _ rfl);have b1:(Oc.be ep).length≤4:=Nat.le_of_eq (Oc.be_len _);have b2:(Oc.be pl).length≤4:=Nat.le_of_eq (Oc.be_len _);have b3:(Oc.be (m.offs.length:Int)).length≤4:=Nat.le_of_eq (Oc.be_len _);have b4:(Oc.be (m.ents.length:Int)).length≤4:=Nat.le_of_eq (Oc.be_len _);have b5:(Oc.be (m.out.length:Int)).length≤4:=Nat.le_of_eq (Oc.be_len _);go_enter Tryz.func19,Tryz.ntmps19
 go_wp2_with fail
 refine AY 13 Tryz.mixed (by kernel_rfl) (by kernel_rfl) ?_
 iterate 13
  apply Ch.val
  focus
   rintro w1 u ⟨R1,n1,rfl⟩ hF;simp[AR,AU.more,Oper.deps,Region.binds,List.filter_cons,World.more_drew] at hF;simp[AL,Oper.deps,Region.binds,List.filter_cons,Region.dstOf,AU.at,Act.put,World.more_drew]
   go_wp2_with (first
    | (go_at_call 49;refine(Bz _ (by assumption) _).mono ?_;rintro e w1 ⟨rfl,R3,n3,rfl⟩)
    )
   exact⟨gw,rfl,_,_,rfl,rfl,rfl⟩
 rintro u w1 ⟨R1,n1,rfl⟩ hF;clear hF;simp[AL,Region.dstOf,AU.at,Act.put,List.range_succ,World.more_drew];go_wp2;have hT0:(Oc.be ep++(Oc.be pl++Oc.be (m.offs.length:Int))).length≤12:=by simp only[List.length_append,Oc.be_len];omega
 have hbe:(⟨(Oc.be ep).toArray⟩++⟨(Oc.be pl).toArray⟩++⟨(Oc.be (m.offs.length:Int)).toArray⟩:ByteArray)=⟨(Oc.be ep++(Oc.be pl++Oc.be (m.offs.length:Int))).toArray⟩:=by rw[Bo,Bo,List.append_assoc]
 rw[hbe];generalize hT0e:Oc.be ep++(Oc.be pl++Oc.be (m.offs.length:Int))=T0 at *;have HT0:=hY hT0e;clear hbe hT0e
 go_loopg [3,4] m.offs.length (fun gg s3 s4 wr=>∃g:Nat,g≤m.offs.length∧m.offs.length-g≤gg∧s4 = .int .i64 g∧s3=str (T0++Oc.bes (m.offs.take g))∧Hid (AA w wr)∧Hid (wr.heap[w.heap.size]? = some (.cells #[.int .i64 ep,.int .i64 pl,.slice ao m.offs.length co,.slice ag m.graph.length cg,.slice ae m.ents.length ce,.slice ax m.out.length cx,.slice ap m.plan.length cp] 42)))
 case atStart=>exact⟨0,by omega,by omega,rfl,by simp[Oc.bes],hY gw,hY (AC gw HBX0.o)⟩
 case round =>
  obtain⟨g,hg8,hgg,rfl,rfl,HGR,HBX⟩:=hrel;have hbl:=Oc.bes_len (m.offs.take g);rw[List.length_take_of_le hg8] at hbl;have hTl:(T0++Oc.bes (m.offs.take g)).length≤100:=by rw[List.length_append,hbl];omega
  have x0:=cell_of (o:=0) HBX.o;have x1:=cell_of (o:=1) HBX.o;have x2:=cell_of (o:=2) HBX.o;have x3:=cell_of (o:=3) HBX.o;have x4:=cell_of (o:=4) HBX.o;have x5:=cell_of (o:=5) HBX.o;have x6:=cell_of (o:=6) HBX.o;simp at x0 x1 x2 x3 x4 x5 x6;have px:=Ad.mk (AB HBX.o);by_cases hlt:g<m.offs.length
  ·obtain⟨af',cf',e,-,hx⟩:=BJ (HO.o.grew HGR.o);cases e;obtain⟨bf,offf,rfl,hpf,cx⟩:=hx g hlt;have hbs:=Oc.bes_succ m.offs g hlt;have fx:=HOF.o _ (List.getElem_mem hlt);clear hx;generalize m.offs[g]=x at *;have bx:(Oc.be x).length≤4:=Nat.le_of_eq (Oc.be_len _);have HNS:=hY (show T0++Oc.bes (m.offs.take (g+1))=(T0++Oc.bes (m.offs.take g))++Oc.be x by rw[hbs,List.append_assoc]);clear hbs hbl;generalize T0++Oc.bes (m.offs.take g)=T at *
   go_wp2_with (go_at_call 49;refine(Bz _ fx _).mono ?_;rintro e w2 ⟨rfl,R5,n5,rfl⟩)
   go_roundg (m.offs.length-(g+1))
   case measure=>omega
   case rel=>exact⟨g+1,by omega,by omega,by go_num,by rw[HNS.o];exact congrArg Value.string (Bo _ _),hY (HGR.o.trans gw),hY (AC gw HBX.o)⟩
  ·obtain rfl:g=m.offs.length:=by omega
   rw[List.take_length] at *;generalize hT1:T0++Oc.bes m.offs=T1 at *;have HT1:=hY hT1;clear hT1 hbl;have HGG:=hY fun W (g:AA wr W)=>Sz _ m.graph W ((HG.o.grew HGR.o).grew g) HOKB.o (by omega)
   generalize hTG:Gr.putG BZ m.graph=TG at *;have HTG:=hY hTG;clear hTG
   go_wp2_with fail
   refine AY 10 Tryz.mixed (by kernel_rfl) (by kernel_rfl) ?_
   iterate 10
    apply Ch.val
    focus
     rintro w1 u ⟨R1,n1,rfl⟩ hF;simp[AR,AU.more,Oper.deps,Region.binds,List.filter_cons,World.more_drew] at hF;simp[AL,Oper.deps,Region.binds,List.filter_cons,Region.dstOf,AU.at,Act.put,World.more_drew]
     go_wp2_with (first
      | (go_at_call 50;refine(HGG.o _ gw).mono ?_;rintro e w2 ⟨rfl,R5,n5,rfl⟩)
      | (go_at_call 49;refine(Bz _ f4 _).mono ?_;rintro e w2 ⟨rfl,R5,n5,rfl⟩))
     exact⟨gw,rfl,_,_,rfl,rfl,rfl⟩
   rintro u w1 ⟨R1,n1,rfl⟩ hF;clear hF;simp[AL,Region.dstOf,AU.at,Act.put,List.range_succ,World.more_drew];go_wp2;have hbe2:(⟨T1.toArray⟩++⟨TG.toArray⟩++⟨(Oc.be (m.ents.length:Int)).toArray⟩:ByteArray)=⟨((T1++TG)++Oc.be (m.ents.length:Int)).toArray⟩:=by rw[Bo,Bo]
   rw[hbe2];have hT2l:((T1++TG)++Oc.be (m.ents.length:Int)).length≤3200:=by simp only[List.length_append,Oc.be_len];omega
   generalize hT2:(T1++TG)++Oc.be (m.ents.length:Int)=T2 at *;have HT2:=hY hT2;clear hbe2 hT2 x0 x1 x2 x3 x4 x5 x6 px
   go_loopg [3,5] m.ents.length (fun gg s3 s5 wz=>∃g:Nat,g≤m.ents.length∧m.ents.length-g≤gg∧s5 = .int .i64 g∧s3=str (T2++(m.ents.take g).flatMap Gr.putE)∧Hid (AA w wz)∧Hid (wz.heap[w.heap.size]? = some (.cells #[.int .i64 ep,.int .i64 pl,.slice ao m.offs.length co,.slice ag m.graph.length cg,.slice ae m.ents.length ce,.slice ax m.out.length cx,.slice ap m.plan.length cp] 42)))
   case atStart=>exact⟨0,by omega,by omega,rfl,by simp,hY (HGR.o.trans gw),hY (AC gw HBX.o)⟩
   case round =>
    obtain⟨g,hg8,hgg,rfl,rfl,HGS1,HBS1⟩:=hrel;have hfl:=Pz Gr.putE 24 A0d (m.ents.take g);rw[List.length_take,Nat.min_eq_left hg8] at hfl;have hTl:(T2++(m.ents.take g).flatMap Gr.putE).length≤16000:=by rw[List.length_append,hfl];omega
    have x0:=cell_of (o:=0) HBS1.o;have x1:=cell_of (o:=1) HBS1.o;have x2:=cell_of (o:=2) HBS1.o;have x3:=cell_of (o:=3) HBS1.o;have x4:=cell_of (o:=4) HBS1.o;have x5:=cell_of (o:=5) HBS1.o;have x6:=cell_of (o:=6) HBS1.o;simp at x0 x1 x2 x3 x4 x5 x6;have px:=Ad.mk (AB HBS1.o);by_cases hlt:g<m.ents.length
    ·obtain⟨a',cap',e,-,hx⟩:=Bp.open6 (HE.o.grew HGS1.o);cases e;obtain⟨b,off,rfl,hb,c0,c1,c2,c3,c4,c5⟩:=hx g hlt;have HTF:=hY (NT Gr.putE m.ents g hlt);have hfx:=HEF.o _ (List.getElem_mem hlt);clear hx hfl;generalize m.ents[g]=x at *;obtain⟨nd,ky,⟨p0,q0⟩,⟨p1,q1⟩⟩:=x;simp only at c0 c1 c2 c3 c4 c5 hfx;simp only[List.all_cons,List.all_nil,Bool.and_true,Bool.and_eq_true] at hfx;obtain⟨fx_nd,fx_ky,fx_p0,fx_q0,fx_p1,fx_q1⟩:=hfx;have bx_nd:(Oc.be nd).length≤4:=Nat.le_of_eq (Oc.be_len _);have bx_ky:(Oc.be ky).length≤4:=Nat.le_of_eq (Oc.be_len _);have bx_p0:(Oc.be p0).length≤4:=Nat.le_of_eq (Oc.be_len _);have bx_q0:(Oc.be q0).length≤4:=Nat.le_of_eq (Oc.be_len _);have bx_p1:(Oc.be p1).length≤4:=Nat.le_of_eq (Oc.be_len _);have bx_q1:(Oc.be q1).length≤4:=Nat.le_of_eq (Oc.be_len _);generalize hTe:T2++(m.ents.take g).flatMap Gr.putE=T at *;have HTE:=hY hTe;clear hTe
     go_upto_region 11 with fail
     refine AY 33 Tryz.mixed (by kernel_rfl) (by kernel_rfl) ?_
     iterate 33
      apply Ch.val
      focus
       rintro w1 u ⟨R1,n1,rfl⟩ hF;simp[AR,AU.more,Oper.deps,Region.binds,List.filter_cons,World.more_drew] at hF;simp[AL,Oper.deps,Region.binds,List.filter_cons,Region.dstOf,AU.at,Act.put,World.more_drew]
       go_wp2_with (go_at_call 49;refine(Bz _ (by assumption) _).mono ?_;rintro e w2 ⟨rfl,R5,n5,rfl⟩)
       exact⟨gw,rfl,_,_,rfl,rfl,rfl⟩
     rintro u w1 ⟨R1,n1,rfl⟩ hF;clear hF;simp[AL,Region.dstOf,AU.at,Act.put,List.range_succ,World.more_drew];go_wp2
     go_roundg (m.ents.length-(g+1))
     case measure=>omega
     case rel=>exact⟨g+1,by omega,by omega,by go_num,by rw[HTF.o,←List.append_assoc,HTE.o];exact congrArg Value.string (by simp only[Bo];simp[Gr.putE,Gr.putLn,Gr.putV]),hY (HGS1.o.trans gw),hY (AC gw HBS1.o)⟩
    ·obtain rfl:g=m.ents.length:=by omega
     rw[List.take_length] at *;generalize hT3:T2++m.ents.flatMap Gr.putE=T3 at *;have HT3:=hY hT3;clear hT3 hfl
     go_wp2_with (go_at_call 49;refine(Bz _ f5 _).mono ?_;rintro e w2 ⟨rfl,R5,n5,rfl⟩)
     rw[Bo];have hT4l:(T3++Oc.be (m.out.length:Int)).length≤16100:=by rw[List.length_append];omega
     generalize hT4:T3++Oc.be (m.out.length:Int)=T4 at *;have HT4:=hY hT4;clear hT4 x0 x1 x2 x3 x4 x5 x6 px
     go_loopg [3,7] m.out.length (fun gg s3 s7 wz=>∃g:Nat,g≤m.out.length∧m.out.length-g≤gg∧s7 = .int .i64 g∧s3=str (T4++(m.out.take g).flatMap Gr.putLn)∧Hid (AA w wz)∧Hid (wz.heap[w.heap.size]? = some (.cells #[.int .i64 ep,.int .i64 pl,.slice ao m.offs.length co,.slice ag m.graph.length cg,.slice ae m.ents.length ce,.slice ax m.out.length cx,.slice ap m.plan.length cp] 42)))
     case atStart=>exact⟨0,by omega,by omega,rfl,by simp,hY (HGS1.o.trans gw),hY (AC gw HBS1.o)⟩
     case round =>
      obtain⟨g,hg8,hgg,rfl,rfl,HGS2,HBS2⟩:=hrel;have hfl:=Pz Gr.putLn 20 Yd (m.out.take g);rw[List.length_take,Nat.min_eq_left hg8] at hfl;have hTl:(T4++(m.out.take g).flatMap Gr.putLn).length≤80000:=by rw[List.length_append,hfl];omega
      have x0:=cell_of (o:=0) HBS2.o;have x1:=cell_of (o:=1) HBS2.o;have x2:=cell_of (o:=2) HBS2.o;have x3:=cell_of (o:=3) HBS2.o;have x4:=cell_of (o:=4) HBS2.o;have x5:=cell_of (o:=5) HBS2.o;have x6:=cell_of (o:=6) HBS2.o;simp at x0 x1 x2 x3 x4 x5 x6;have px:=Ad.mk (AB HBS2.o);by_cases hlt:g<m.out.length
      ·obtain⟨a',cap',e,-,hx⟩:=Hm.open5 (HX.o.grew HGS2.o);cases e;obtain⟨b,off,rfl,hb,c0,c1,c2,c3,c4⟩:=hx g hlt;have HTF:=hY (NT Gr.putLn m.out g hlt);have hfx:=HLF.o _ (List.getElem_mem hlt);clear hx hfl;generalize m.out[g]=x at *;obtain⟨si,fr,ky,⟨p0,q0⟩⟩:=x;simp only at c0 c1 c2 c3 c4 hfx;simp only[List.all_cons,List.all_nil,Bool.and_true,Bool.and_eq_true] at hfx;obtain⟨fx_si,fx_fr,fx_ky,fx_p0,fx_q0⟩:=hfx;have bx_si:(Oc.be si).length≤4:=Nat.le_of_eq (Oc.be_len _);have bx_fr:(Oc.be fr).length≤4:=Nat.le_of_eq (Oc.be_len _);have bx_ky:(Oc.be ky).length≤4:=Nat.le_of_eq (Oc.be_len _);have bx_p0:(Oc.be p0).length≤4:=Nat.le_of_eq (Oc.be_len _);have bx_q0:(Oc.be q0).length≤4:=Nat.le_of_eq (Oc.be_len _);generalize hTe:T4++(m.out.take g).flatMap Gr.putLn=T at *;have HTE:=hY hTe;clear hTe
       go_upto_region 17 with fail
       refine AY 23 Tryz.mixed (by kernel_rfl) (by kernel_rfl) ?_
       iterate 23
        apply Ch.val
        focus
         rintro w1 u ⟨R1,n1,rfl⟩ hF;simp[AR,AU.more,Oper.deps,Region.binds,List.filter_cons,World.more_drew] at hF;simp[AL,Oper.deps,Region.binds,List.filter_cons,Region.dstOf,AU.at,Act.put,World.more_drew]
         go_wp2_with (go_at_call 49;refine(Bz _ (by assumption) _).mono ?_;rintro e w2 ⟨rfl,R5,n5,rfl⟩)
         exact⟨gw,rfl,_,_,rfl,rfl,rfl⟩
       rintro u w1 ⟨R1,n1,rfl⟩ hF;clear hF;simp[AL,Region.dstOf,AU.at,Act.put,List.range_succ,World.more_drew];go_wp2
       go_roundg (m.out.length-(g+1))
       case measure=>omega
       case rel=>exact⟨g+1,by omega,by omega,by go_num,by rw[HTF.o,←List.append_assoc,HTE.o];exact congrArg Value.string (by simp only[Bo];simp[Gr.putE,Gr.putLn,Gr.putV]),hY (HGS2.o.trans gw),hY (AC gw HBS2.o)⟩
      ·obtain rfl:g=m.out.length:=by omega
       rw[List.take_length] at *;generalize hT5:T4++m.out.flatMap Gr.putLn=T5 at *;have HT5:=hY hT5;clear hT5 hfl
       have HFIN:Hid (∀t,t=Ig m.plan→T5++(Oc.be t.length++t)=Gr.putM BZ m):=hY fun t ht=>by
        subst ht;rw[HEQ.o,←HT5.o,←HT4.o,←HT3.o,←HT2.o,←HT1.o,←HT0.o];rw[←HTG.o];unfold Gr.putG;rw[HGS.o,NH]
       have HPL:=hY fun W (g:AA w W)=>Nl _ m.plan W (HP.o.grew g)
       go_wp2_with fail
       refine(HPL.o _ (HGS2.o.trans gw)).mono ?_;rintro e w8 ⟨t,b,rfl,hg8,ht1,ht2⟩;have HG8:=hY hg8
       have ht:t=Ig m.plan∧t.length≤8000:=by
        rcases HPN.o with e|e
        ·rw[e] at ht2 ⊢;rw[(ht2 (fun q=>by have:=q.1;simp at this)).1,VQ];exact⟨rfl,by simp⟩
        ·rw[(ht1 e).1,Ye (fun q=>by have:=e.1;rw[q] at this;simp at this)];exact⟨rfl,Gr.putPl_len (fun l hl=>IY l hl) e⟩
       have HT9:=hY (HFIN.o t ht.1);have htl:=ht.2;clear hg8 ht1 ht2 ht;have htb:(Oc.be (t.length:Int)).length=4:=Oc.be_len _;have hcl:(Oc.be (t.length:Int)++t).length≤8004:=by rw[List.length_append,htb];omega
       have HX9:=hY fun W=>O7 t (by omega) W
       generalize Oc.be (t.length:Int)++t=t9 at *;clear htb
       go_wp2_with (go_at_call 51;refine(HX9.o _).mono ?_;rintro e w9 ⟨rfl,R9,n9,rfl⟩)
       go_ret;exact⟨by rw[←HT9.o];simp[Bo],HGS2.o.trans ((show AA _ _ by exact gw).trans (HG8.o.trans gw))⟩
end Go.Proofs.YtgebkpgilgppgaaGreat
