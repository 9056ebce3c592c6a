import Derived.Test.YtgebkpgilgppgaaGreatMw31
import Derived.Test.YtgebkpgilgppgaaGreatMw17
import Derived.Test.YtgebkpgilgppgaaGreatMw25
import Derived.Test.YtgebkpgilgppgaaGreatMw19
import Derived.Test.YtgebkpgilgppgaaGreatMw9
import Derived.Test.YtgebkpgilgppgaaGreatMw32
import Derived.Test.YtgebkpgilgppgaaGreatMw28
import Derived.Deep.DeepCutAuto
import Derived.Deep.CutBlock
import Derived.Deep.RegionHeld3
set_option linter.unusedSimpArgs false
set_option linter.unusedVariables false
set_option maxRecDepth 100000
set_option maxHeartbeats 64000000
namespace Go.Proofs.YtgebkpgilgppgaaGreat
open Go.RowKit Ga
theorem A3S(l:List Gr.Nd)(v:Value)(w W:World)(src:Int)(Q:Exit→Act→World→Prop)(a0:Act)
  (hfr:a0=FD (fun i=>a0.tmps.getD i undef)) (h00:a0.tmps.getD 0 undef=v) (h03:a0.tmps.getD 3 undef = .int .i64 src) (hg:AA w W) (hv:AV w v l)
  (hbad:(src≠1∨¬∀n∈l,Gr.above l n.id n.id 9=false)→∀a' w',MF w 10 a' w'→Q .ret a' w')
  (hnext:src=1→(∀n∈l,Gr.above l n.id n.id 9=false)→∀a' w',MF w 0 a' w'→Q .ret a' w') :
  Code.wp Tryz.prog (GA 27) Q a0 W:=by
 obtain⟨u,hu⟩:∃u:Nat→Value,u=fun i=>a0.tmps.getD i undef:=⟨_,rfl⟩
 rw[←hu] at hfr;have u0:u 0=_:=(congrFun hu 0).trans h00;have u3:u 3=_:=(congrFun hu 3).trans h03;clear hu h00 h03;subst hfr;obtain⟨a,cap,rfl,hm,-⟩:=hv.openC
 conv=>arg 2;whnf
 unfold FD;rw[u0,u3];have HG:=hY hg;have HBAD:=hY hbad;have HNX:=hY hnext;have HV:=hY (hv.grew hg);clear hg hbad hnext hv u0 u3;by_cases k1:src=1
 ·subst k1;go_wp2
  go_loopg [9] l.length (fun gg s9 wr=>∃g:Nat,g≤l.length∧l.length-g≤gg∧s9 = .int .i64 g∧Hid (AA W wr)∧Hid (∀i (hi:i<l.length),i<g→Gr.above l l[i].id l[i].id 9=false))
  case atStart=>exact⟨0,by omega,by omega,rfl,hY gw,hY fun i _ h=>by omega⟩
  case round =>
   obtain⟨g,hg8,hgg,rfl,HGR,HNO⟩:=hrel;by_cases hlt:g<l.length
   ·obtain⟨av,cv,e,-,hx⟩:=(HV.o.grew HGR.o).openC;cases e;obtain⟨b,off,c,rfl,hb,hn,c0,-⟩:=hx g hlt;have eid:=hn.id;have HAB:=hY fun n=>IZ _ l (wr.drewN n) ((HV.o.grew HGR.o).grew ((AA.refl wr).drewN n)) 9 (by omega) l[g].id l[g].id
    have HBK:=hY fun(h:Gr.above l l[g].id l[g].id 9=true)=>HBAD.o (Or.inr fun q=>by rw[q _ (List.getElem_mem hlt)] at h;cases h)
    obtain⟨x,hx2⟩:∃x,x=c.id:=⟨_,rfl⟩;have HX:=hY (eid.trans hx2.symm);rw[←hx2] at c0;rw[eid,←hx2] at HAB HBK;clear hx hn eid hx2;cases hq:Gr.above l x x 9
    ·have HQ:=hY hq;clear hq
     go_upto_region 32 with fail
     go_quiet (first|(go_at_call 25;refine Calls.quiet_of_same ((HAB.o _).mono fun e w' h=>⟨h.1.trans (by rw[HQ.o]),h.2⟩)))
     go_wp2
     go_roundg (l.length-(g+1))
     case measure=>omega
     case rel=>exact⟨g+1,by omega,by omega,by go_num,hY (HGR.o.trans gw),hY fun i hi h=>by
      rcases Nat.lt_or_ge i g with h1|h1
      ·exact HNO.o i hi h1
      ·obtain rfl:i=g:=by omega
       rw[HX.o]
       exact HQ.o⟩
    ·have HQ:=hY hq;clear hq
     go_upto_region 32 with fail
     go_quiet (first|(go_at_call 25;refine Calls.quiet_of_same ((HAB.o _).mono fun e w' h=>⟨h.1.trans (by rw[HQ.o]),h.2⟩)))
     go_wp2;exact HBK.o HQ.o _ _ ⟨rfl,rfl,HG.o.trans (HGR.o.trans gw)⟩
   ·obtain rfl:g=l.length:=by omega
    have hok:∀n∈l,Gr.above l n.id n.id 9=false:=fun n hn=>by
     obtain⟨i,hi,rfl⟩:=List.mem_iff_getElem.1 hn;exact HNO.o i hi hi
    have HOK:=hY hok;clear hok;go_wp2;exact HNX.o (by simp) HOK.o _ _ ⟨rfl,rfl,HG.o.trans HGR.o⟩
 ·have k1':(src != 1)=true:=by rw[bne_iff_ne];exact k1
  have HK:=hY k1;clear k1;go_wp2;exact HBAD.o (Or.inl HK.o) _ _ ⟨rfl,rfl,HG.o.trans gw⟩
theorem JH{l:List Gr.Nd}{k:Nat}{y:Gr.Nd}: Gr.OkR l k y↔LK l k y∧Mq y∧Ev y∧Jo y∧U2 l y:=by
 constructor
 ·intro h;refine⟨⟨h.id0,h.id7,(Ct h.fst).1,h.kd0,h.kd2,h.pr1,h.pr3,h.fr3,h.src⟩,h.rt,⟨h.f0,h.f1,h.f2⟩,⟨h.p1,h.p0⟩,h.fr⟩
 ·rintro⟨⟨h1,h2,h3,h4,h5,h6,h7,h8,h9⟩,h10,⟨h11,h12,h13⟩,⟨h14,h15⟩,h16⟩;refine⟨h1,h2,?_,h4,h5,h6,h7,h8,h9,h10,h11,h12,h13,h14,h15,h16⟩
  cases hf:Gr.find l y.id with
  | none=>rw[DC hf] at h3;omega
  |some j =>
   rw[(Ct hf).1] at h3;have:j=k:=by omega
   rw[this]
theorem U1{l:List Gr.Nd}{k:Nat}{y:Gr.Nd}(hk:l[k]? = some y): (((l.take (k+1)).countP (fun n=>n.kind==0):Nat):Int)=((l.take k).countP (fun n=>n.kind==0):Nat)+if y.kind=0 then 1 else 0:=by
 rw[List.take_add_one,hk];simp only[Option.toList_some,List.countP_append,List.countP_singleton];by_cases h:y.kind=0
 ·rw[if_pos (by rw[h];rfl),if_pos h];omega
 ·rw[if_neg (by simpa using h),if_neg h];omega
theorem Gp{w W:World}{x:Int}{a:Act}{l:List Gr.Nd}(h:MF w x a W)(e:x=AP l): bodyPost Tryz.prog Tryz.f6 (Ac (.int .i64 (AP l)) w) .ret a W:=by
 obtain⟨t,d⟩:=a;obtain⟨h1,h2,h3⟩:=h;simp only at h1 h2;subst h2;refine bodyPost_ret (v:=.int .i64 x) ?_ rfl ⟨by rw[e],h3⟩;simp[results,Tryz.results6,go_sem];rw[←Array.getD_eq_getD_getElem?,h1]
theorem A8(v:Value)(l:List Gr.Nd)(w:World)(hv:AV w v l): Calls Tryz.prog 6 #[v] w (Ac (.int .i64 (AP l)) w):=by
 have HV:=hY hv;obtain⟨a,cap,rfl,hm,-⟩:=hv.openC;clear hv;by_cases h8:8<l.length
 ·have h8':(8:Int)<(l.length:Int):=by omega
  have hc:=IU h8;have HC:=hY hc;clear hc h8;go_enter Tryz.func6,Tryz.ntmps6;go_wp2;go_ret;exact⟨by rw[HC.o];rfl,gw⟩
 ·have h8':¬(8:Int)<(l.length:Int):=by omega
  have H8:=hY h8;clear h8;go_enter Tryz.func6,Tryz.ntmps6;go_wp2;refine wp_loop_ghost_k (fun gg a' wr=>∃k:Nat,k≤l.length∧l.length-k≤gg∧Z4 w (.slice a l.length cap) k (((l.take k).countP (fun n=>n.kind==0):Nat):Int) a' wr∧∀j n,l[j]? = some n→j<k→Gr.OkR l j n) l.length ?_ ?_
  ·exact⟨0,by omega,by omega,⟨rfl,rfl,rfl,rfl,gw⟩,fun j n _ h=>by omega⟩
  ·rintro gg a1 wr ⟨k,hk8,hgg,⟨hfr,h00,h03,h04,hg⟩,hno⟩ J K hJ hK;have HK:Hid (∀a' w',(∃n',n'<gg∧∃k:Nat,k≤l.length∧l.length-k≤n'∧Z4 w (.slice a l.length cap) k (((l.take k).countP (fun n=>n.kind==0):Nat):Int) a' w'∧∀j n,l[j]? = some n→j<k→Gr.OkR l j n)→K a' w'):=hY fun a' w' ⟨n',h1,h2⟩=>hK _ _ (Handed.intro n' h1 (hJ _ _ _ h2))
   have HGR:=hY hg;have HNO:=hY hno;obtain⟨u,hu⟩:∃u:Nat→Value,u=fun i=>a1.tmps.getD i undef:=⟨_,rfl⟩
   rw[←hu] at hfr;have u0:u 0=_:=(congrFun hu 0).trans h00;have u3:u 3=_:=(congrFun hu 3).trans h03;have u4:u 4=_:=(congrFun hu 4).trans h04;clear hu h00 h03 h04 hno hg hJ hK;subst hfr;unfold FD;rw[u0,u3,u4];clear u0 u3 u4;by_cases hlt:k<l.length
   ·obtain⟨av,cv,e,-,hx⟩:=(HV.o.grew HGR.o).openC;cases e;obtain⟨b,off,c,rfl,hb,hn,c0,c1,c2,c3,c4,c5,c6,c7,c8,c9,c10,c11,c12⟩:=hx k hlt;have HX:=hY (And.intro hn (And.intro c0 (And.intro c1 (And.intro c2 (And.intro c3 (And.intro c4 (And.intro c5 (And.intro c6 (And.intro c7 (And.intro c8 (And.intro c9 (And.intro c10 (And.intro c11 c12)))))))))))));clear hx hn c0 c1 c2 c3 c4 c5 c6 c7 c8 c9 c10 c11 c12;have hget:l[k]? = some l[k]:=List.getElem?_eq_getElem hlt;have HGET:=hY hget;have hcnt:((l.take k).countP (fun n=>n.kind==0))≤8:=Nat.le_trans List.countP_le_length (by rw[List.length_take];omega);have hbad:¬Gr.OkR l k l[k]→(10:Int)=AP l:=fun h=>(Dx (by have:=H8.o;omega) fun r=>h (r.ok k _ HGET.o)).symm
    have HBAD:=hY hbad;clear hget hbad;generalize hy:l[k]=y at *;have HY:=hY hy;clear hy
    go_upto_if 16 with fail
    iterate 6 go_step
    obtain⟨hn,c0,c1,c2,c3,c4,c5,c6,c7,c8,c9,c10,c11,c12⟩:=HX.o;refine A3N l wr wr b off cap k (((l.take k).countP (fun n=>n.kind==0):Nat):Int) c y _ _ ?_ (HV.o.grew HGR.o) hlt hm hn hb c0 c1 c2 c3 c4 c5 c6 c7 c8 c9 c10 c11 c12 ?_ ?_
    ·exact⟨rfl,rfl,rfl,rfl,AA.refl wr⟩
    ·intro h a' w' hr;exact Gp ⟨hr.t2,hr.d,HGR.o.trans hr.g⟩ (HBAD.o fun q=>h (JH.1 q).1)
    ·intro o1 a1 W1 h1;have hnW:=hn.grew h1.g;refine A3O l wr W1 _ k _ _ c y _ _ h1 hnW ?_ ?_
     ·intro h a' w' hr;exact Gp ⟨hr.t2,hr.d,HGR.o.trans hr.g⟩ (HBAD.o fun q=>h (JH.1 q).2.1)
     ·intro o2 a2 W2 g2 h2;refine A3P l wr W2 _ k _ _ c y _ _ h2 (hnW.grew g2) ⟨o1.2.2.2.1,o1.2.2.2.2.1⟩ ⟨by omega,by omega⟩ ?_ ?_
      ·intro h a' w' hr;exact Gp ⟨hr.t2,hr.d,HGR.o.trans hr.g⟩ (HBAD.o fun q=>h (JH.1 q).2.2.1)
      ·intro o3 a3 W3 g3 h3;refine A3Q l wr W3 _ k _ _ c y _ _ h3 ((hnW.grew g2).grew g3) ?_ ?_
       ·intro h a' w' hr;exact Gp ⟨hr.t2,hr.d,HGR.o.trans hr.g⟩ (HBAD.o fun q=>h (JH.1 q).2.2.2.1)
       ·intro o4 a4 W4 g4 h4;refine A3R l wr W4 b off cap k _ _ c y _ _ h4 (((hnW.grew g2).grew g3).grew g4) (HV.o.grew HGR.o) (by omega) o1.2.2.2.2.2.2.2.1 ?_ ?_
        ·intro h a' w' hr;exact Gp ⟨hr.t2,hr.d,HGR.o.trans hr.g⟩ (HBAD.o fun q=>h (JH.1 q).2.2.2.2)
        ·intro o5 a5 W5 g5 h5;have hok:Gr.OkR l k y:=JH.2 ⟨o1,o2,o3,o4,o5⟩;have HOK:=hY hok;have hcn:=U1 HGET.o;have HCN:=hY hcn;clear hok hcn;obtain⟨hfr,h00,h03,h04,h05,hg,hbx⟩:=h5;obtain⟨u,hu⟩:∃u:Nat→Value,u=fun i=>a5.tmps.getD i undef:=⟨_,rfl⟩
         rw[←hu] at hfr;have u0:u 0=_:=(congrFun hu 0).trans h00;have u3:u 3=_:=(congrFun hu 3).trans h03;have u4:u 4=_:=(congrFun hu 4).trans h04;clear hu h00 h03 h04 h05;subst hfr;obtain⟨cc,hcc⟩:∃cc,cc=(((l.take k).countP (fun n=>n.kind==0):Nat):Int)+if y.kind=0 then 1 else 0:=⟨_,rfl⟩
         rw[←hcc] at u3 HCN;clear hcc;unfold FD;rw[u0,u3,u4];have HG5:=hY hg;clear hg hbx u0 u3 u4 o1 o2 o3 o4 o5 h1 h2 h3 h4 g2 g3 g4 g5 hnW hn c0 c1 c2 c3 c4 c5 c6 c7 c8 c9 c10 c11 c12;go_wp2;refine HK.o _ _ ⟨l.length-(k+1),by omega,k+1,by omega,by omega,⟨rfl,rfl,?_,?_,HGR.o.trans (HG5.o.trans gw)⟩,?_⟩
         ·rw[HCN.o];rfl
         ·exact congrArg (Value.int .i64) (by omega:(k:Int)+1=((k+1:Nat):Int))
         ·intro j n hj h;rcases Nat.lt_or_ge j k with h1|h1
          ·exact HNO.o j n hj h1
          ·obtain rfl:j=k:=by omega
           have:=HGET.o.symm.trans hj;cases this;exact HOK.o
   ·obtain rfl:k=l.length:=by omega
    have hcnt:(((l.take l.length).countP (fun n=>n.kind==0):Nat):Int)=(l.countP (fun n=>n.kind==0):Nat):=by rw[List.take_length]
    have HCNT:=hY hcnt;clear hcnt
    go_upto_if 16 with fail
    iterate 4 go_step
    refine A3S l _ w wr ((l.countP (fun n=>n.kind==0):Nat):Int) _ _ ?_ ?_ ?_ HGR.o HV.o ?_ ?_
    ·rfl
    ·rfl
    ·first|rfl|exact congrArg (Value.int .i64) HCNT.o
    ·intro h a' w' hr;refine Gp hr (Dx (by have:=H8.o;omega) fun q=>?_).symm;rcases h with h|h
     ·exact h (by have:=q.one;omega)
     ·exact h q.ac
    ·intro h1 h2 a' w' hr;refine Gp hr (GK (by have:=H8.o;omega) ⟨by have:=H8.o;omega,fun i n hi=>HNO.o i n hi (List.getElem?_eq_some_iff.1 hi).1,by omega,h2⟩).symm
theorem A0X:BF []:=by unfold BF;rfl
theorem TC{w:World}{v:Value}{l:List Gr.Nd}(h:AV w v l): ∀n∈l,n.route.length=8:=by
 obtain⟨lc,-,h2,h3⟩:=h;intro n hn;obtain⟨i,hi,rfl⟩:=List.mem_iff_getElem.1 hn;rw[(h3 i lc[i] l[i] (List.getElem?_eq_getElem (by omega)) (List.getElem?_eq_getElem hi)).route];rfl
theorem TD{l:List Gr.Nd}(h:Cj l=false): Small l∧l.length≤20:=by
 unfold Cj at h;simp only[Bool.or_eq_false_iff,decide_eq_false_iff_not,List.any_eq_false] at h;refine⟨fun n hn=>?_,by omega⟩;have:=h.2 n hn;unfold Ia at this;simp only[Bool.or_eq_true,decide_eq_true_eq,not_or] at this;omega
theorem Pw{l:List Gr.Nd}(h:Gr.RightR l)(h8:∀n∈l,n.route.length=8): ∀n∈l,Gr.OkB BF 1 n:=h.okB A0X (fun p hp=>safe_fits hp) h8
theorem Nt{l:List Gr.Nd}(h:AP l=0): 0<l.length:=by
 have:=(Bj h).one
 cases l with
 | nil=>simp at this
 | cons=>simp
theorem CQ{u:World}{r:Int×List Gr.Nd}{w w':World}{x:Int}(hr:r.1=x)(hx:x≠0)(g:AA w w'): C9 u r w (.returned (.tuple #[.slice none 0 0,.int .i64 x])) w':=⟨g,.inl ⟨by rw[hr];exact hx,by rw[hr]⟩⟩
theorem Nu(u:World)(v:Value)(l:List Gr.Nd)(c:Bw)(s:Gr.Stp)(w:World)(hu9:AA u w)(hv9:BC u w v l)(hcp:capOk v)(hst9:Ai u c s)(h:AP l≠0∨s.kind<1∨5<s.kind): Calls Tryz.prog 87 #[v,.agg #[.int .i64 c.kind,.int .i64 c.c.id,.int .i64 c.c.kind,.slice c.c.af c.c.nf c.c.cf,.slice c.c.ap c.c.np c.c.cp,.int .i64 c.c.par,.int .i64 c.c.r0,.int .i64 c.c.r1,.int .i64 c.c.r2,.int .i64 c.c.r3,.int .i64 c.c.r4,.int .i64 c.c.r5,.int .i64 c.c.r6,.int .i64 c.c.r7,.bool c.reset]] w (C9 u (Gr.stepE AP l s) w):=by
 have hv:=hv9.at hu9;have hst:=hst9.grew hu9;have HCK:=hY fun W2 (g:AA w W2)=>A8 v l W2 (hv.grew g)
 obtain⟨a,cap,rfl,hm,-⟩:=hv.openC;have hsk:=hst.kind;obtain⟨kd,⟨id,kind,af,nf,cf,ap,np,cp,par,r0,r1,r2,r3,r4,r5,r6,r7⟩,rs⟩:=c;simp only at hsk;clear hv hst hcp hv9 hst9 hu9;by_cases hc:AP l=0
 ·have h2:kd<1∨5<kd:=by
   rcases h with h|h
   ·exact absurd hc h
   ·omega
  have he:(Gr.stepE AP l s).1=11:=by
   unfold Gr.stepE;rw[if_neg (by rw[hc];decide),if_pos (by omega)]
  rw[hc] at HCK;have HE:=hY he;clear h he hc hsk;rcases h2 with h2|h2
  ·go_enter Tryz.func87,Tryz.ntmps87
   go_wp2_with (go_at_call 6;((with_reducible refine Calls.mono (HCK.o _ ?_) ?_));(focus(exact gw));rintro e w1 ⟨rfl,R3,n3,rfl⟩)
   exact bodyPost_ret (v:=.tuple #[.slice none 0 0,.int .i64 11]) (by simp[results,Tryz.results87,go_sem]) rfl (CQ HE.o (by decide) gw)
  ·have h1:¬(kd<1):=by omega
   go_enter Tryz.func87,Tryz.ntmps87
   go_wp2_with (go_at_call 6;((with_reducible refine Calls.mono (HCK.o _ ?_) ?_));(focus(exact gw));rintro e w1 ⟨rfl,R3,n3,rfl⟩)
   exact bodyPost_ret (v:=.tuple #[.slice none 0 0,.int .i64 11]) (by simp[results,Tryz.results87,go_sem]) rfl (CQ HE.o (by decide) gw)
 ·have he:(Gr.stepE AP l s).1=10:=by
   unfold Gr.stepE;rw[if_pos hc]
  have HE:=hY he;have hq:(AP l != 0)=true:=by rw[bne_iff_ne];exact hc
  clear h he hc hsk;generalize AP l=q at *;go_enter Tryz.func87,Tryz.ntmps87
  go_wp2_with (go_at_call 6;((with_reducible refine Calls.mono (HCK.o _ ?_) ?_));(focus(exact gw));rintro e w1 ⟨rfl,R3,n3,rfl⟩)
  exact bodyPost_ret (v:=.tuple #[.slice none 0 0,.int .i64 10]) (by simp[results,Tryz.results87,go_sem]) rfl (CQ HE.o (by decide) gw)
theorem Iu{u:World}{l l':List Gr.Nd}{s:Gr.Stp}{w w':World}{q:Int}(hq:AP l'=q)(hn:q≠0)(he:Gr.stepE AP l s=Gr.finE AP l')(g:AA w w'): C9 u (Gr.stepE AP l s) w (.returned (.tuple #[.slice none 0 0,.int .i64 q])) w':=by
 subst hq;rw[he];unfold Gr.finE;rw[if_pos hn];exact⟨g,.inl ⟨hn,rfl⟩⟩
theorem Iw{u:World}{l l':List Gr.Nd}{s:Gr.Stp}{w W w':World}{v:Value}(hq:AP l'=0)(he:Gr.stepE AP l s=Gr.finE AP l')(hv:BC u W v l')(hcp:capOk v)(g2:AA W w')(g:AA w w'): C9 u (Gr.stepE AP l s) w (.returned (.tuple #[v,.int .i64 0])) w':=by
 rw[he];unfold Gr.finE;rw[if_neg (fun h2=>h2 hq)];exact⟨g,.inr ⟨rfl,v,rfl,hv.grew g2,hcp⟩⟩
theorem Y6(u:World)(v:Value)(l:List Gr.Nd)(c:Bw)(s:Gr.Stp)(w:World)(hu9:AA u w)(hv9:BC u w v l)(hcp:capOk v)(hst9:Ai u c s)(hc:AP l=0)(hk:s.kind=1)(i:Nat)(hf:Gr.find l s.nd.id=some i): Calls Tryz.prog 87 #[v,.agg #[.int .i64 c.kind,.int .i64 c.c.id,.int .i64 c.c.kind,.slice c.c.af c.c.nf c.c.cf,.slice c.c.ap c.c.np c.c.cp,.int .i64 c.c.par,.int .i64 c.c.r0,.int .i64 c.c.r1,.int .i64 c.c.r2,.int .i64 c.c.r3,.int .i64 c.c.r4,.int .i64 c.c.r5,.int .i64 c.c.r6,.int .i64 c.c.r7,.bool c.reset]] w (C9 u (Gr.stepE AP l s) w):=by
 have hv:=hv9.at hu9;have hst:=hst9.grew hu9;obtain⟨hi,hid⟩:=Fy hf;have hfi:Bh l s.nd.id=(i:Int):=by unfold Bh;rw[hf]
 have hno:Gr.nodeOf l s.nd.id=some l[i]:=by unfold Gr.nodeOf;rw[hf,Option.bind_some,List.getElem?_eq_getElem hi]
 have hu:=Ld.un hc;have hl8:=(Bj hc).len;have HCK:=hY fun W2 (g:AA w W2)=>A8 v l W2 (hv.grew g)
 have HFI:=hY fun W2 (g:AA w W2)=>BB v l s.nd.id W2 (hv.grew g)
 have hfd:=MG;have HKD:=hY fun W2 (g:AA w W2)=>FB v l s.nd.id W2 (hv.grew g)
 have HSF:=hY fun W2 (g:AA w W2)=>DJ _ s.nd.prog W2 (hst.nd.p.grew g)
 rw[hc] at HCK;rw[hfi] at HFI;obtain⟨lc,hr,hrel⟩:=hv9;have hlen:=BL.len hrel;have HREL:=hY hrel;have HR:=hY hr;obtain⟨a,cap,rfl,hm,hx⟩:=hv.openC;obtain⟨b,off,cx,rfl,hb,hn,x0,x1,-⟩:=hx i hi;have hnk:=hn.kind;have HCP:Hid (l.length≤cap):=hY (hcp _ _ _ rfl);clear hx hr hrel hn hv x0 hcp;have HST:=hY hst9;have HU9:=hY hu9;clear hst9 hu9;have hsk:=hst.kind;have hsi:=hst.nd.id;have hkd:c.kind=1:=by rw[←hsk];exact hk
 obtain⟨kd,⟨id,kind,af,nf,cf,ap,np,cp,par,r0,r1,r2,r3,r4,r5,r6,r7⟩,rs⟩:=c;simp only at hsk hsi hkd HSF;subst hkd;rw[hsi] at HFI HKD;have HLC:Hid (lc.length≤8∧0<lc.length∧i<lc.length∧lc.length=l.length):=hY ⟨by omega,by omega,by omega,hlen⟩;have HNL:Hid ((Value.slice (some ⟨b,off,none⟩) l.length cap) = .slice (some ⟨b,off,none⟩) lc.length cap):=hY (by rw[hlen]);have hi2:(i:Int)<(l.length:Int):=by omega
 have hi3:(i:Int)<(lc.length:Int):=by omega
 have hi0:¬((i:Int)<0):=by omega
 have hi1:0≤(i:Int):=by omega
 have HC:=hY hc;have HI:=hY hi;have HSK:=hY hsk;have HU:=hY hu;have HID:=hY hid;have HNO:=hY hno;have hset:l.set i { l[i] with prog:=s.nd.prog }=Gr.updN l s.nd.id fun m=>{ m with prog:=s.nd.prog }:=Gr.updN_set HU.o HI.o HID.o fun m=>{ m with prog:=s.nd.prog }
 have he:Gr.stepE AP l s=if l[i].kind≠1 then (11,[]) else if Vm.safe s.nd.prog=true then Gr.finE AP (l.set i { l[i] with prog:=s.nd.prog }) else (9,[]):=by
  unfold Gr.stepE;rw[if_neg (by rw[hc];decide),if_neg (by omega),hno];simp only;rw[if_neg (by omega),if_pos hk];rw[hset]
  first|done|rfl|(split<;>rfl)
 clear hset hno hid hu hf hfi hst hc hsi hm hlen;by_cases hbk:l[i].kind≠1
 ·have he2:(Gr.stepE AP l s).1=11:=by rw[he,if_pos hbk]
  have HE:=hY he2;have hbb:(cx.kind != 1)=true:=by rw[bne_iff_ne,←hnk];exact hbk
  clear he he2 hbk hnk hk hsk;go_enter Tryz.func87,Tryz.ntmps87
  go_upto_region 5 with (go_at_call 6;((with_reducible refine Calls.mono (HCK.o _ ?_) ?_));(focus(exact gw));rintro e w1 ⟨rfl,R3,n3,rfl⟩)
  have hbx:((w.alloc (.cells #[.int .i64 1,.int .i64 id,.int .i64 kind,.slice af nf cf,.slice ap np cp,.int .i64 par,.int .i64 r0,.int .i64 r1,.int .i64 r2,.int .i64 r3,.int .i64 r4,.int .i64 r5,.int .i64 r6,.int .i64 r7,.bool rs] 66)).more R3 n3).heap[w.heap.size]? = some (.cells #[.int .i64 1,.int .i64 id,.int .i64 kind,.slice af nf cf,.slice ap np cp,.int .i64 par,.int .i64 r0,.int .i64 r1,.int .i64 r2,.int .i64 r3,.int .i64 r4,.int .i64 r5,.int .i64 r6,.int .i64 r7,.bool rs] 66):=AC gw (AO w _ _ rfl);have hgw:AA w ((w.alloc (.cells #[.int .i64 1,.int .i64 id,.int .i64 kind,.slice af nf cf,.slice ap np cp,.int .i64 par,.int .i64 r0,.int .i64 r1,.int .i64 r2,.int .i64 r3,.int .i64 r4,.int .i64 r5,.int .i64 r6,.int .i64 r7,.bool rs] 66)).more R3 n3):=gw;generalize (w.alloc (.cells #[.int .i64 1,.int .i64 id,.int .i64 kind,.slice af nf cf,.slice ap np cp,.int .i64 par,.int .i64 r0,.int .i64 r1,.int .i64 r2,.int .i64 r3,.int .i64 r4,.int .i64 r5,.int .i64 r6,.int .i64 r7,.bool rs] 66)).more R3 n3=wb at *;have y0:=cell_of (o:=0) hbx;have y1:=cell_of (o:=1) hbx;have y2:=cell_of (o:=2) hbx;have y3:=cell_of (o:=3) hbx;have y4:=cell_of (o:=4) hbx;have y5:=cell_of (o:=5) hbx;have y6:=cell_of (o:=6) hbx;have y7:=cell_of (o:=7) hbx;have y8:=cell_of (o:=8) hbx;have y9:=cell_of (o:=9) hbx;have y10:=cell_of (o:=10) hbx;have y11:=cell_of (o:=11) hbx;have y12:=cell_of (o:=12) hbx;have y13:=cell_of (o:=13) hbx;have y14:=cell_of (o:=14) hbx;simp at y0 y1 y2 y3 y4 y5 y6 y7 y8 y9 y10 y11 y12 y13 y14;have pX:=Ad.mk (AB hbx);have hszb:=AB hbx;have HGW:=hY hgw;have HSZ:=hY hszb;have x1':=Al hgw x1;have pb':=Ad.ofCell x1';clear hbx hgw hszb x1 hb
  go_upto_region 6 with (at_builtin;go_loud (refine Bi (w0:=wb) (enc:=Ae) (l:=([]:List BM)) (v:=.slice (some ⟨_,0,none⟩) 0 0) rfl (.tmp 20) (.tmp 21) 22 _ _ _ lc rfl Tryz.underlying22 CX rfl (by decide) AZ BP rfl (OwnAt.lit _ _ (by simp[go_sem]) (by omega)) gw rfl (HR.o.grew (HGW.o.trans gw)) (.inr ⟨_,_,HNL.o⟩) (by have:=HLC.o;simp only[List.length_nil];omega) (by decide) ?_);intro v6 R6 n6 ho6 _;obtain⟨b6,c6,rfl⟩:=Bu ho6 (by have:=HLC.o;simp only[List.length_append,List.length_nil];omega);simp only[List.length_append,List.length_nil,Nat.zero_add,List.nil_append] at ho6 ⊢;(have HO6:=hY ho6);clear ho6)
  go_wp2_with (go_at_call 16;((with_reducible refine Calls.mono (HFI.o _ ?_) ?_));(focus(exact HGW.o.trans gw));rintro e w1 ⟨rfl,hw1⟩;obtain rfl:=hw1)
  exact bodyPost_ret (v:=.tuple #[.slice none 0 0,.int .i64 11]) (by simp[results,Tryz.results87,go_sem]) rfl (CQ HE.o (by decide) (HGW.o.trans gw))
 cases hsf:Vm.safe s.nd.prog
 ·have he2:(Gr.stepE AP l s).1=9:=by rw[he,if_neg hbk,if_neg (by rw[hsf];decide)]
  have HE:=hY he2;have hbb:(cx.kind != 1)=false:=by have h9:cx.kind=1:=(by rw[←hnk];exact Classical.not_not.mp hbk);rw[h9];rfl
  unfold CU at HSF;rw[hsf] at HSF;clear he he2 hbk hnk hk hsk hsf;go_enter Tryz.func87,Tryz.ntmps87
  go_upto_region 5 with (go_at_call 6;((with_reducible refine Calls.mono (HCK.o _ ?_) ?_));(focus(exact gw));rintro e w1 ⟨rfl,R3,n3,rfl⟩)
  have hbx:((w.alloc (.cells #[.int .i64 1,.int .i64 id,.int .i64 kind,.slice af nf cf,.slice ap np cp,.int .i64 par,.int .i64 r0,.int .i64 r1,.int .i64 r2,.int .i64 r3,.int .i64 r4,.int .i64 r5,.int .i64 r6,.int .i64 r7,.bool rs] 66)).more R3 n3).heap[w.heap.size]? = some (.cells #[.int .i64 1,.int .i64 id,.int .i64 kind,.slice af nf cf,.slice ap np cp,.int .i64 par,.int .i64 r0,.int .i64 r1,.int .i64 r2,.int .i64 r3,.int .i64 r4,.int .i64 r5,.int .i64 r6,.int .i64 r7,.bool rs] 66):=AC gw (AO w _ _ rfl);have hgw:AA w ((w.alloc (.cells #[.int .i64 1,.int .i64 id,.int .i64 kind,.slice af nf cf,.slice ap np cp,.int .i64 par,.int .i64 r0,.int .i64 r1,.int .i64 r2,.int .i64 r3,.int .i64 r4,.int .i64 r5,.int .i64 r6,.int .i64 r7,.bool rs] 66)).more R3 n3):=gw;generalize (w.alloc (.cells #[.int .i64 1,.int .i64 id,.int .i64 kind,.slice af nf cf,.slice ap np cp,.int .i64 par,.int .i64 r0,.int .i64 r1,.int .i64 r2,.int .i64 r3,.int .i64 r4,.int .i64 r5,.int .i64 r6,.int .i64 r7,.bool rs] 66)).more R3 n3=wb at *;have y0:=cell_of (o:=0) hbx;have y1:=cell_of (o:=1) hbx;have y2:=cell_of (o:=2) hbx;have y3:=cell_of (o:=3) hbx;have y4:=cell_of (o:=4) hbx;have y5:=cell_of (o:=5) hbx;have y6:=cell_of (o:=6) hbx;have y7:=cell_of (o:=7) hbx;have y8:=cell_of (o:=8) hbx;have y9:=cell_of (o:=9) hbx;have y10:=cell_of (o:=10) hbx;have y11:=cell_of (o:=11) hbx;have y12:=cell_of (o:=12) hbx;have y13:=cell_of (o:=13) hbx;have y14:=cell_of (o:=14) hbx;simp at y0 y1 y2 y3 y4 y5 y6 y7 y8 y9 y10 y11 y12 y13 y14;have pX:=Ad.mk (AB hbx);have hszb:=AB hbx;have HGW:=hY hgw;have HSZ:=hY hszb;have x1':=Al hgw x1;have pb':=Ad.ofCell x1';clear hbx hgw hszb x1 hb;have HSF:=hY fun W2 (g:AA wb W2)=>HSF.o W2 (HGW.o.trans g)
  go_upto_region 6 with (at_builtin;go_loud (refine Bi (w0:=wb) (enc:=Ae) (l:=([]:List BM)) (v:=.slice (some ⟨_,0,none⟩) 0 0) rfl (.tmp 20) (.tmp 21) 22 _ _ _ lc rfl Tryz.underlying22 CX rfl (by decide) AZ BP rfl (OwnAt.lit _ _ (by simp[go_sem]) (by omega)) gw rfl (HR.o.grew (HGW.o.trans gw)) (.inr ⟨_,_,HNL.o⟩) (by have:=HLC.o;simp only[List.length_nil];omega) (by decide) ?_);intro v6 R6 n6 ho6 _;obtain⟨b6,c6,rfl⟩:=Bu ho6 (by have:=HLC.o;simp only[List.length_append,List.length_nil];omega);simp only[List.length_append,List.length_nil,Nat.zero_add,List.nil_append] at ho6 ⊢;(have HO6:=hY ho6);clear ho6)
  go_wp2_with (first|(go_at_call 16;((with_reducible refine Calls.mono (HFI.o _ ?_) ?_));(focus(exact HGW.o.trans gw));rintro e w1 ⟨rfl,hw1⟩;obtain rfl:=hw1)|(go_at_call 23;((with_reducible refine Calls.mono (HSF.o _ ?_) ?_));(focus(exact gw));intro e w1 hC;obtain⟨⟨R7,N7,hw⟩,kd7,kn1,kn2,ku1,ku2,rfl⟩:=hC;subst hw))
  exact bodyPost_ret (v:=.tuple #[.slice none 0 0,.int .i64 9]) (by simp[results,Tryz.results87,go_sem]) rfl (CQ HE.o (by decide) (HGW.o.trans gw))
 have he2:Gr.stepE AP l s=Gr.finE AP (l.set i { l[i] with prog:=s.nd.prog }):=by rw[he,if_neg hbk,if_pos hsf]
 have HE:=hY he2;have hbb:(cx.kind != 1)=false:=by have h9:cx.kind=1:=(by rw[←hnk];exact Classical.not_not.mp hbk);rw[h9];rfl
 unfold CU at HSF;rw[hsf] at HSF;clear he he2 hbk hnk hk hsk hsf;go_enter Tryz.func87,Tryz.ntmps87
 go_upto_region 5 with (go_at_call 6;((with_reducible refine Calls.mono (HCK.o _ ?_) ?_));(focus(exact gw));rintro e w1 ⟨rfl,R3,n3,rfl⟩)
 have hbx:((w.alloc (.cells #[.int .i64 1,.int .i64 id,.int .i64 kind,.slice af nf cf,.slice ap np cp,.int .i64 par,.int .i64 r0,.int .i64 r1,.int .i64 r2,.int .i64 r3,.int .i64 r4,.int .i64 r5,.int .i64 r6,.int .i64 r7,.bool rs] 66)).more R3 n3).heap[w.heap.size]? = some (.cells #[.int .i64 1,.int .i64 id,.int .i64 kind,.slice af nf cf,.slice ap np cp,.int .i64 par,.int .i64 r0,.int .i64 r1,.int .i64 r2,.int .i64 r3,.int .i64 r4,.int .i64 r5,.int .i64 r6,.int .i64 r7,.bool rs] 66):=AC gw (AO w _ _ rfl);have hgw:AA w ((w.alloc (.cells #[.int .i64 1,.int .i64 id,.int .i64 kind,.slice af nf cf,.slice ap np cp,.int .i64 par,.int .i64 r0,.int .i64 r1,.int .i64 r2,.int .i64 r3,.int .i64 r4,.int .i64 r5,.int .i64 r6,.int .i64 r7,.bool rs] 66)).more R3 n3):=gw;generalize (w.alloc (.cells #[.int .i64 1,.int .i64 id,.int .i64 kind,.slice af nf cf,.slice ap np cp,.int .i64 par,.int .i64 r0,.int .i64 r1,.int .i64 r2,.int .i64 r3,.int .i64 r4,.int .i64 r5,.int .i64 r6,.int .i64 r7,.bool rs] 66)).more R3 n3=wb at *;have y0:=cell_of (o:=0) hbx;have y1:=cell_of (o:=1) hbx;have y2:=cell_of (o:=2) hbx;have y3:=cell_of (o:=3) hbx;have y4:=cell_of (o:=4) hbx;have y5:=cell_of (o:=5) hbx;have y6:=cell_of (o:=6) hbx;have y7:=cell_of (o:=7) hbx;have y8:=cell_of (o:=8) hbx;have y9:=cell_of (o:=9) hbx;have y10:=cell_of (o:=10) hbx;have y11:=cell_of (o:=11) hbx;have y12:=cell_of (o:=12) hbx;have y13:=cell_of (o:=13) hbx;have y14:=cell_of (o:=14) hbx;simp at y0 y1 y2 y3 y4 y5 y6 y7 y8 y9 y10 y11 y12 y13 y14;have pX:=Ad.mk (AB hbx);have hszb:=AB hbx;have HGW:=hY hgw;have HSZ:=hY hszb;have x1':=Al hgw x1;have pb':=Ad.ofCell x1';clear hbx hgw hszb x1 hb;have HSF:=hY fun W2 (g:AA wb W2)=>HSF.o W2 (HGW.o.trans g)
 go_upto_region 6 with (at_builtin;go_loud (refine Bi (w0:=wb) (enc:=Ae) (l:=([]:List BM)) (v:=.slice (some ⟨_,0,none⟩) 0 0) rfl (.tmp 20) (.tmp 21) 22 _ _ _ lc rfl Tryz.underlying22 CX rfl (by decide) AZ BP rfl (OwnAt.lit _ _ (by simp[go_sem]) (by omega)) gw rfl (HR.o.grew (HGW.o.trans gw)) (.inr ⟨_,_,HNL.o⟩) (by have:=HLC.o;simp only[List.length_nil];omega) (by decide) ?_);intro v6 R6 n6 ho6 _;obtain⟨b6,c6,rfl⟩:=Bu ho6 (by have:=HLC.o;simp only[List.length_append,List.length_nil];omega);simp only[List.length_append,List.length_nil,Nat.zero_add,List.nil_append] at ho6 ⊢;(have HO6:=hY ho6);clear ho6)
 have hOA:Fj u w (wb.more R6 n6) (.slice (some ⟨b6,0,none⟩) lc.length c6) lc l:=⟨OwnAt.low HO6.o (by have:=HSZ.o;omega),HREL.o,HGW.o.trans gw⟩;obtain⟨co,hco⟩:∃co,lc[i]? = some co:=⟨_,List.getElem?_eq_getElem HLC.o.2.2.1⟩;obtain⟨_,hbb6,_,_,cur,hcur,_,_⟩:=OwnAt.cells HO6.o;have hBX:¬(b6=w.heap.size):=by have:=HSZ.o;omega
 have hBX2:¬(w.heap.size=b6):=by have:=HSZ.o;omega
 have p6:=Ad.mk (AB hcur);have f3:=AJ (o:=i*13+3) hcur;have k3:=Av (j:=3) HO6.o hco (by decide);simp[Ae] at k3;obtain⟨l9,hl9⟩:∃l9,l9=l.set i { l[i] with prog:=s.nd.prog }:=⟨_,rfl⟩;rw[←hl9] at HE
 have hout:BC u ((wb.more R6 n6).setCell ⟨b6,i*13+3,none⟩ (.slice ap np cp)) (.slice (some ⟨b6,0,none⟩) lc.length c6) l9∧AA w ((wb.more R6 n6).setCell ⟨b6,i*13+3,none⟩ (.slice ap np cp))∧capOk (.slice (some ⟨b6,0,none⟩) lc.length c6):=by
  rw[hl9];have h:=Fj.set1 hOA HST.o hco HI.o;exact⟨h.at,h.2.2,OwnAt.capOk h.1⟩
 obtain⟨q,hq⟩:∃q,AP l9=q:=⟨_,rfl⟩;have HQ:=hY hq;have HCK9:=hY fun W2 (g:AA ((wb.more R6 n6).setCell ⟨b6,i*13+3,none⟩ (.slice ap np cp)) W2)=>A8 _ l9 W2 ((hout.1.grew g).at ((HU9.o.trans hout.2.1).trans g))
 rw[hq] at HCK9;have HOUT:=hY hout;clear hcur hbb6 hOA hout hco hl9 hq
 go_upto_region 34 with (first|(go_at_call 16;((with_reducible refine Calls.mono (HFI.o _ ?_) ?_));(focus(exact HGW.o.trans gw));rintro e w1 ⟨rfl,hw1⟩;obtain rfl:=hw1)|(go_at_call 23;((with_reducible refine Calls.mono (HSF.o _ ?_) ?_));(focus(exact gw));intro e w1 hC;obtain⟨⟨R7,N7,hw⟩,kd7,kn1,kn2,ku1,ku2,rfl⟩:=hC;subst hw))
 by_cases hq0:q=0
 ·subst hq0
  go_wp2_with (go_at_call 6;((with_reducible refine Calls.mono (HCK9.o _ ?_) ?_));(focus(exact gw));rintro e w1 ⟨rfl,R5,n5,rfl⟩)
  exact bodyPost_ret (v:=.tuple #[.slice (some ⟨b6,0,none⟩) lc.length c6,.int .i64 0]) (by simp[results,Tryz.results87,go_sem]) rfl (Iw HQ.o HE.o HOUT.o.1 HOUT.o.2.2 gw (HOUT.o.2.1.trans gw))
 ·have hb2:(q != 0)=true:=by rw[bne_iff_ne];exact hq0
  have HQ0:=hY hq0;clear hq0
  go_wp2_with (go_at_call 6;((with_reducible refine Calls.mono (HCK9.o _ ?_) ?_));(focus(exact gw));rintro e w1 ⟨rfl,R5,n5,rfl⟩)
  exact bodyPost_ret (v:=.tuple #[.slice none 0 0,.int .i64 q]) (by simp[results,Tryz.results87,go_sem]) rfl (Iu HQ.o HQ0.o HE.o (HOUT.o.2.1.trans gw))
theorem Y7(u:World)(v:Value)(l:List Gr.Nd)(c:Bw)(s:Gr.Stp)(w:World)(hu9:AA u w)(hv9:BC u w v l)(hcp:capOk v)(hst9:Ai u c s)(hc:AP l=0)(hk:s.kind=4)(i:Nat)(hf:Gr.find l s.nd.id=some i): Calls Tryz.prog 87 #[v,.agg #[.int .i64 c.kind,.int .i64 c.c.id,.int .i64 c.c.kind,.slice c.c.af c.c.nf c.c.cf,.slice c.c.ap c.c.np c.c.cp,.int .i64 c.c.par,.int .i64 c.c.r0,.int .i64 c.c.r1,.int .i64 c.c.r2,.int .i64 c.c.r3,.int .i64 c.c.r4,.int .i64 c.c.r5,.int .i64 c.c.r6,.int .i64 c.c.r7,.bool c.reset]] w (C9 u (Gr.stepE AP l s) w):=by
 have hv:=hv9.at hu9;have hst:=hst9.grew hu9;obtain⟨hi,hid⟩:=Fy hf;have hfi:Bh l s.nd.id=(i:Int):=by unfold Bh;rw[hf]
 have hno:Gr.nodeOf l s.nd.id=some l[i]:=by unfold Gr.nodeOf;rw[hf,Option.bind_some,List.getElem?_eq_getElem hi]
 have hu:=Ld.un hc;have hl8:=(Bj hc).len;have HCK:=hY fun W2 (g:AA w W2)=>A8 v l W2 (hv.grew g)
 have HFI:=hY fun W2 (g:AA w W2)=>BB v l s.nd.id W2 (hv.grew g)
 skip
 have HKD:=hY fun W2 (g:AA w W2)=>FB v l s.nd.id W2 (hv.grew g)
 have HSF:=hY fun W2 (g:AA w W2)=>DJ _ s.nd.prog W2 (hst.nd.p.grew g)
 rw[hc] at HCK;rw[hfi] at HFI;obtain⟨lc,hr,hrel⟩:=hv9;have hlen:=BL.len hrel;have HREL:=hY hrel;have HR:=hY hr;obtain⟨a,cap,rfl,hm,hx⟩:=hv.openC;obtain⟨b,off,cx,rfl,hb,hn,x0,x1,-⟩:=hx i hi;have hnk:=hn.kind;have HCP:Hid (l.length≤cap):=hY (hcp _ _ _ rfl);clear hx hr hrel hn hv x0 hcp;have HST:=hY hst9;have HU9:=hY hu9;clear hst9 hu9;have hsk:=hst.kind;have hsi:=hst.nd.id;have hkd:c.kind=4:=by rw[←hsk];exact hk
 obtain⟨kd,⟨id,kind,af,nf,cf,ap,np,cp,par,r0,r1,r2,r3,r4,r5,r6,r7⟩,rs⟩:=c;simp only at hsk hsi hkd HSF;subst hkd;rw[hsi] at HFI HKD;have HLC:Hid (lc.length≤8∧0<lc.length∧i<lc.length∧lc.length=l.length):=hY ⟨by omega,by omega,by omega,hlen⟩;have HNL:Hid ((Value.slice (some ⟨b,off,none⟩) l.length cap) = .slice (some ⟨b,off,none⟩) lc.length cap):=hY (by rw[hlen]);have hi2:(i:Int)<(l.length:Int):=by omega
 have hi3:(i:Int)<(lc.length:Int):=by omega
 have hi0:¬((i:Int)<0):=by omega
 have hi1:0≤(i:Int):=by omega
 have HC:=hY hc;have HI:=hY hi;have HSK:=hY hsk;have HU:=hY hu;have HID:=hY hid;have HNO:=hY hno;have hset:l.set i { l[i] with par:=s.nd.par,route:=s.nd.route }=Gr.updN l s.nd.id fun m=>{ m with par:=s.nd.par,route:=s.nd.route }:=Gr.updN_set HU.o HI.o HID.o fun m=>{ m with par:=s.nd.par,route:=s.nd.route }
 have he:Gr.stepE AP l s=if l[i].kind=0 then (11,[]) else Gr.finE AP (l.set i { l[i] with par:=s.nd.par,route:=s.nd.route }):=by
  unfold Gr.stepE;rw[if_neg (by rw[hc];decide),if_neg (by omega),hno];simp only;rw[if_neg (by omega),if_neg (by omega),if_neg (by omega),if_pos hk];rw[hset]
  first|done|rfl|(split<;>rfl)
 clear hset hno hid hu hf hfi hst hc hsi hm hlen;by_cases hbk:l[i].kind=0
 ·have he2:(Gr.stepE AP l s).1=11:=by rw[he,if_pos hbk]
  have HE:=hY he2;have hbb:(cx.kind==0)=true:=by have h9:cx.kind=0:=(by rw[←hnk];exact hbk);rw[h9];rfl
  clear he he2 hbk hnk hk hsk;go_enter Tryz.func87,Tryz.ntmps87
  go_upto_region 5 with (go_at_call 6;((with_reducible refine Calls.mono (HCK.o _ ?_) ?_));(focus(exact gw));rintro e w1 ⟨rfl,R3,n3,rfl⟩)
  have hbx:((w.alloc (.cells #[.int .i64 4,.int .i64 id,.int .i64 kind,.slice af nf cf,.slice ap np cp,.int .i64 par,.int .i64 r0,.int .i64 r1,.int .i64 r2,.int .i64 r3,.int .i64 r4,.int .i64 r5,.int .i64 r6,.int .i64 r7,.bool rs] 66)).more R3 n3).heap[w.heap.size]? = some (.cells #[.int .i64 4,.int .i64 id,.int .i64 kind,.slice af nf cf,.slice ap np cp,.int .i64 par,.int .i64 r0,.int .i64 r1,.int .i64 r2,.int .i64 r3,.int .i64 r4,.int .i64 r5,.int .i64 r6,.int .i64 r7,.bool rs] 66):=AC gw (AO w _ _ rfl);have hgw:AA w ((w.alloc (.cells #[.int .i64 4,.int .i64 id,.int .i64 kind,.slice af nf cf,.slice ap np cp,.int .i64 par,.int .i64 r0,.int .i64 r1,.int .i64 r2,.int .i64 r3,.int .i64 r4,.int .i64 r5,.int .i64 r6,.int .i64 r7,.bool rs] 66)).more R3 n3):=gw;generalize (w.alloc (.cells #[.int .i64 4,.int .i64 id,.int .i64 kind,.slice af nf cf,.slice ap np cp,.int .i64 par,.int .i64 r0,.int .i64 r1,.int .i64 r2,.int .i64 r3,.int .i64 r4,.int .i64 r5,.int .i64 r6,.int .i64 r7,.bool rs] 66)).more R3 n3=wb at *;have y0:=cell_of (o:=0) hbx;have y1:=cell_of (o:=1) hbx;have y2:=cell_of (o:=2) hbx;have y3:=cell_of (o:=3) hbx;have y4:=cell_of (o:=4) hbx;have y5:=cell_of (o:=5) hbx;have y6:=cell_of (o:=6) hbx;have y7:=cell_of (o:=7) hbx;have y8:=cell_of (o:=8) hbx;have y9:=cell_of (o:=9) hbx;have y10:=cell_of (o:=10) hbx;have y11:=cell_of (o:=11) hbx;have y12:=cell_of (o:=12) hbx;have y13:=cell_of (o:=13) hbx;have y14:=cell_of (o:=14) hbx;simp at y0 y1 y2 y3 y4 y5 y6 y7 y8 y9 y10 y11 y12 y13 y14;have pX:=Ad.mk (AB hbx);have hszb:=AB hbx;have HGW:=hY hgw;have HSZ:=hY hszb;have x1':=Al hgw x1;have pb':=Ad.ofCell x1';clear hbx hgw hszb x1 hb
  go_upto_region 6 with (at_builtin;go_loud (refine Bi (w0:=wb) (enc:=Ae) (l:=([]:List BM)) (v:=.slice (some ⟨_,0,none⟩) 0 0) rfl (.tmp 20) (.tmp 21) 22 _ _ _ lc rfl Tryz.underlying22 CX rfl (by decide) AZ BP rfl (OwnAt.lit _ _ (by simp[go_sem]) (by omega)) gw rfl (HR.o.grew (HGW.o.trans gw)) (.inr ⟨_,_,HNL.o⟩) (by have:=HLC.o;simp only[List.length_nil];omega) (by decide) ?_);intro v6 R6 n6 ho6 _;obtain⟨b6,c6,rfl⟩:=Bu ho6 (by have:=HLC.o;simp only[List.length_append,List.length_nil];omega);simp only[List.length_append,List.length_nil,Nat.zero_add,List.nil_append] at ho6 ⊢;(have HO6:=hY ho6);clear ho6)
  go_wp2_with (go_at_call 16;((with_reducible refine Calls.mono (HFI.o _ ?_) ?_));(focus(exact HGW.o.trans gw));rintro e w1 ⟨rfl,hw1⟩;obtain rfl:=hw1)
  exact bodyPost_ret (v:=.tuple #[.slice none 0 0,.int .i64 11]) (by simp[results,Tryz.results87,go_sem]) rfl (CQ HE.o (by decide) (HGW.o.trans gw))
 have he2:Gr.stepE AP l s=Gr.finE AP (l.set i { l[i] with par:=s.nd.par,route:=s.nd.route }):=by rw[he,if_neg hbk]
 have HE:=hY he2;have hbb:(cx.kind==0)=false:=by rw[beq_eq_false_iff_ne,←hnk];exact hbk
 clear he he2 hbk hnk hk hsk;go_enter Tryz.func87,Tryz.ntmps87
 go_upto_region 5 with (go_at_call 6;((with_reducible refine Calls.mono (HCK.o _ ?_) ?_));(focus(exact gw));rintro e w1 ⟨rfl,R3,n3,rfl⟩)
 have hbx:((w.alloc (.cells #[.int .i64 4,.int .i64 id,.int .i64 kind,.slice af nf cf,.slice ap np cp,.int .i64 par,.int .i64 r0,.int .i64 r1,.int .i64 r2,.int .i64 r3,.int .i64 r4,.int .i64 r5,.int .i64 r6,.int .i64 r7,.bool rs] 66)).more R3 n3).heap[w.heap.size]? = some (.cells #[.int .i64 4,.int .i64 id,.int .i64 kind,.slice af nf cf,.slice ap np cp,.int .i64 par,.int .i64 r0,.int .i64 r1,.int .i64 r2,.int .i64 r3,.int .i64 r4,.int .i64 r5,.int .i64 r6,.int .i64 r7,.bool rs] 66):=AC gw (AO w _ _ rfl);have hgw:AA w ((w.alloc (.cells #[.int .i64 4,.int .i64 id,.int .i64 kind,.slice af nf cf,.slice ap np cp,.int .i64 par,.int .i64 r0,.int .i64 r1,.int .i64 r2,.int .i64 r3,.int .i64 r4,.int .i64 r5,.int .i64 r6,.int .i64 r7,.bool rs] 66)).more R3 n3):=gw;generalize (w.alloc (.cells #[.int .i64 4,.int .i64 id,.int .i64 kind,.slice af nf cf,.slice ap np cp,.int .i64 par,.int .i64 r0,.int .i64 r1,.int .i64 r2,.int .i64 r3,.int .i64 r4,.int .i64 r5,.int .i64 r6,.int .i64 r7,.bool rs] 66)).more R3 n3=wb at *;have y0:=cell_of (o:=0) hbx;have y1:=cell_of (o:=1) hbx;have y2:=cell_of (o:=2) hbx;have y3:=cell_of (o:=3) hbx;have y4:=cell_of (o:=4) hbx;have y5:=cell_of (o:=5) hbx;have y6:=cell_of (o:=6) hbx;have y7:=cell_of (o:=7) hbx;have y8:=cell_of (o:=8) hbx;have y9:=cell_of (o:=9) hbx;have y10:=cell_of (o:=10) hbx;have y11:=cell_of (o:=11) hbx;have y12:=cell_of (o:=12) hbx;have y13:=cell_of (o:=13) hbx;have y14:=cell_of (o:=14) hbx;simp at y0 y1 y2 y3 y4 y5 y6 y7 y8 y9 y10 y11 y12 y13 y14;have pX:=Ad.mk (AB hbx);have hszb:=AB hbx;have HGW:=hY hgw;have HSZ:=hY hszb;have x1':=Al hgw x1;have pb':=Ad.ofCell x1';clear hbx hgw hszb x1 hb
 go_upto_region 6 with (at_builtin;go_loud (refine Bi (w0:=wb) (enc:=Ae) (l:=([]:List BM)) (v:=.slice (some ⟨_,0,none⟩) 0 0) rfl (.tmp 20) (.tmp 21) 22 _ _ _ lc rfl Tryz.underlying22 CX rfl (by decide) AZ BP rfl (OwnAt.lit _ _ (by simp[go_sem]) (by omega)) gw rfl (HR.o.grew (HGW.o.trans gw)) (.inr ⟨_,_,HNL.o⟩) (by have:=HLC.o;simp only[List.length_nil];omega) (by decide) ?_);intro v6 R6 n6 ho6 _;obtain⟨b6,c6,rfl⟩:=Bu ho6 (by have:=HLC.o;simp only[List.length_append,List.length_nil];omega);simp only[List.length_append,List.length_nil,Nat.zero_add,List.nil_append] at ho6 ⊢;(have HO6:=hY ho6);clear ho6)
 have hOA:Fj u w (wb.more R6 n6) (.slice (some ⟨b6,0,none⟩) lc.length c6) lc l:=⟨OwnAt.low HO6.o (by have:=HSZ.o;omega),HREL.o,HGW.o.trans gw⟩;obtain⟨co,hco⟩:∃co,lc[i]? = some co:=⟨_,List.getElem?_eq_getElem HLC.o.2.2.1⟩;obtain⟨_,hbb6,_,_,cur,hcur,_,_⟩:=OwnAt.cells HO6.o;have hBX:¬(b6=w.heap.size):=by have:=HSZ.o;omega
 have hBX2:¬(w.heap.size=b6):=by have:=HSZ.o;omega
 have p6:=Ad.mk (AB hcur);have f4:=AJ (o:=i*13+4) hcur;have k4:=Av (j:=4) HO6.o hco (by decide);have f5:=AJ (o:=i*13+5) hcur;have k5:=Av (j:=5) HO6.o hco (by decide);have f6:=AJ (o:=i*13+6) hcur;have k6:=Av (j:=6) HO6.o hco (by decide);have f7:=AJ (o:=i*13+7) hcur;have k7:=Av (j:=7) HO6.o hco (by decide);have f8:=AJ (o:=i*13+8) hcur;have k8:=Av (j:=8) HO6.o hco (by decide);have f9:=AJ (o:=i*13+9) hcur;have k9:=Av (j:=9) HO6.o hco (by decide);have f10:=AJ (o:=i*13+10) hcur;have k10:=Av (j:=10) HO6.o hco (by decide);have f11:=AJ (o:=i*13+11) hcur;have k11:=Av (j:=11) HO6.o hco (by decide);have f12:=AJ (o:=i*13+12) hcur;have k12:=Av (j:=12) HO6.o hco (by decide);simp[Ae] at k4 k5 k6 k7 k8 k9 k10 k11 k12;obtain⟨l9,hl9⟩:∃l9,l9=l.set i { l[i] with par:=s.nd.par,route:=s.nd.route }:=⟨_,rfl⟩;rw[←hl9] at HE
 have hout:BC u ((((((((((wb.more R6 n6).setCell ⟨b6,i*13+4,none⟩ (.int .i64 par)).setCell ⟨b6,i*13+5,none⟩ (.int .i64 r0)).setCell ⟨b6,i*13+6,none⟩ (.int .i64 r1)).setCell ⟨b6,i*13+7,none⟩ (.int .i64 r2)).setCell ⟨b6,i*13+8,none⟩ (.int .i64 r3)).setCell ⟨b6,i*13+9,none⟩ (.int .i64 r4)).setCell ⟨b6,i*13+10,none⟩ (.int .i64 r5)).setCell ⟨b6,i*13+11,none⟩ (.int .i64 r6)).setCell ⟨b6,i*13+12,none⟩ (.int .i64 r7)) (.slice (some ⟨b6,0,none⟩) lc.length c6) l9∧AA w ((((((((((wb.more R6 n6).setCell ⟨b6,i*13+4,none⟩ (.int .i64 par)).setCell ⟨b6,i*13+5,none⟩ (.int .i64 r0)).setCell ⟨b6,i*13+6,none⟩ (.int .i64 r1)).setCell ⟨b6,i*13+7,none⟩ (.int .i64 r2)).setCell ⟨b6,i*13+8,none⟩ (.int .i64 r3)).setCell ⟨b6,i*13+9,none⟩ (.int .i64 r4)).setCell ⟨b6,i*13+10,none⟩ (.int .i64 r5)).setCell ⟨b6,i*13+11,none⟩ (.int .i64 r6)).setCell ⟨b6,i*13+12,none⟩ (.int .i64 r7))∧capOk (.slice (some ⟨b6,0,none⟩) lc.length c6):=by
  rw[hl9];have h:=Fj.set4 hOA HST.o hco HI.o;exact⟨h.at,h.2.2,OwnAt.capOk h.1⟩
 obtain⟨q,hq⟩:∃q,AP l9=q:=⟨_,rfl⟩;have HQ:=hY hq;have HCK9:=hY fun W2 (g:AA ((((((((((wb.more R6 n6).setCell ⟨b6,i*13+4,none⟩ (.int .i64 par)).setCell ⟨b6,i*13+5,none⟩ (.int .i64 r0)).setCell ⟨b6,i*13+6,none⟩ (.int .i64 r1)).setCell ⟨b6,i*13+7,none⟩ (.int .i64 r2)).setCell ⟨b6,i*13+8,none⟩ (.int .i64 r3)).setCell ⟨b6,i*13+9,none⟩ (.int .i64 r4)).setCell ⟨b6,i*13+10,none⟩ (.int .i64 r5)).setCell ⟨b6,i*13+11,none⟩ (.int .i64 r6)).setCell ⟨b6,i*13+12,none⟩ (.int .i64 r7)) W2)=>A8 _ l9 W2 ((hout.1.grew g).at ((HU9.o.trans hout.2.1).trans g))
 rw[hq] at HCK9;have HOUT:=hY hout;clear hcur hbb6 hOA hout hco hl9 hq
 go_upto_region 34 with (first|(go_at_call 16;((with_reducible refine Calls.mono (HFI.o _ ?_) ?_));(focus(exact HGW.o.trans gw));rintro e w1 ⟨rfl,hw1⟩;obtain rfl:=hw1))
 by_cases hq0:q=0
 ·subst hq0
  go_wp2_with (go_at_call 6;((with_reducible refine Calls.mono (HCK9.o _ ?_) ?_));(focus(exact gw));rintro e w1 ⟨rfl,R5,n5,rfl⟩)
  exact bodyPost_ret (v:=.tuple #[.slice (some ⟨b6,0,none⟩) lc.length c6,.int .i64 0]) (by simp[results,Tryz.results87,go_sem]) rfl (Iw HQ.o HE.o HOUT.o.1 HOUT.o.2.2 gw (HOUT.o.2.1.trans gw))
 ·have hb2:(q != 0)=true:=by rw[bne_iff_ne];exact hq0
  have HQ0:=hY hq0;clear hq0
  go_wp2_with (go_at_call 6;((with_reducible refine Calls.mono (HCK9.o _ ?_) ?_));(focus(exact gw));rintro e w1 ⟨rfl,R5,n5,rfl⟩)
  exact bodyPost_ret (v:=.tuple #[.slice none 0 0,.int .i64 q]) (by simp[results,Tryz.results87,go_sem]) rfl (Iu HQ.o HQ0.o HE.o (HOUT.o.2.1.trans gw))
end Go.Proofs.YtgebkpgilgppgaaGreat
namespace Go
theorem XQ{α:Type}{e:TypeId}{k:Nat}{enc:α→List Value}{w0:World}{v vx:Value}{l l2:List α}{P:Program}{o:Oper}{a:Act}{K:Act→World→Prop}{Q:Exit→Act→World→Prop}{W:World}
  (s x:Operand) (t:TypeId) (z:Value) (bytes:Nat)
  (ho:o.op = .call { callee:=.builtin .append,args:=#[s,x],argTypes:=#[t,t] })
  (ht:P.underlying t=some (.slice e)) (hinfo:(P.info? e).map (fun i=>(i.zero,i.size,i.bytes))=some (some z,k,bytes)) (hz:z.cells.size=k) (hk:0<k)
  (henc:∀x,(enc x).length=k) (hone:∀x,∀u∈enc x,u.oneCell'=true)
  (hs:a.eval s=v) (hown:OwnAt w0.heap.size e k enc W v l) (hg:AA w0 W)
  (hx:a.eval x=vx) (hrows:AX k enc W vx l2) (hnil:vx = .slice none 0 0∨∃ad c,vx = .slice (some ad) l2.length c)
  (hlen:l.length+l2.length≤1000000) (hby:bytes≤1000)
  (h:∀v' R N,OwnAt w0.heap.size e k enc (w0.more R N) v' (l++l2)→K (a.put o.dst v') (w0.more R N)):Oper.wp P o a W K Q:=by
 obtain⟨i,hi,hz0,hz1,hz2⟩:=info_parts hinfo;obtain⟨a2,cap2,hv2,hm2,hc2⟩:=hrows;rcases hnil with h0|⟨ad,c,h0⟩
 ·subst h0
  have hl0:l2=[]:=by
   injection hv2 with _ h1 _
   exact List.eq_nil_of_length_eq_zero h1.symm
  subst hl0;have hrun:=run_append_owned_none (P:=P) (w:=W) w0.heap.size t o.type e i k ht hi v l.length (l.flatMap enc) hown;obtain⟨R,N,rfl⟩:=hg;unfold Oper.wp;simp[execOp,ho,resolve,invoke,builtin,hs,hx,hrun,Result.andThen];refine h v R N ?_;rw[List.append_nil];exact hown
 ·subst h0;have hmul:(l.length+l2.length)*bytes≤1000000*1000:=Nat.mul_le_mul hlen hby
  obtain⟨v',W',hrun,h1,h2,_⟩:=run_append_own (P:=P) W w0.heap.size t o.type e i z k bytes ht hi hz0 hz1 hz2 hz hk v l.length (l.flatMap enc) hown ad l2.length c (l2.flatMap enc) (Aw henc l2) (by
   intro j u hj;obtain⟨q,y,r,h1,h2,rfl⟩:=FR henc l2 j u hj;obtain⟨b,off,hb,hcell⟩:=hc2 (by intro e;subst e;simp at h1);cases hv2;cases hb;rw[Gv,←Nat.add_assoc]
   exact hcell q y h1 r u h2) (by
   intro u hu;obtain⟨y,_,hy⟩:=List.mem_flatMap.1 hu
   exact hone y u hy) (by unfold maxLen;omega) (by omega) hg.below.size
  obtain⟨R,N,rfl⟩:=hg.grown h2 (fun q hq=>OwnAt.lt hown q hq);unfold Oper.wp;simp[execOp,ho,resolve,invoke,builtin,hs,hx,hrun,Result.andThen];refine h v' R N ?_;unfold OwnAt;rw[List.length_append,List.flatMap_append];exact h1
end Go
namespace Go.Proofs.YtgebkpgilgppgaaGreat
open Go.RowKit Ga
theorem V6{w:World}{b off n cap:Nat}{l:List BM}{i j:Nat}(h:AX 13 Ae w (.slice (some ⟨b,off,none⟩) n cap) l)(hn:n=l.length)(hj:j≤l.length)(hcap:l.length≤cap)(hij:j=i+1): AX 13 Ae w (.slice (if cap=j then some ⟨b,off,none⟩ else some ⟨b,off+j*13,none⟩) (n-j) (cap-j)) (l.drop (i+1)):=by
 subst hij hn;obtain⟨a,cap',e,hmx,hx⟩:=h;cases e;by_cases he:cap=i+1
 ·rw[if_pos he];rw[List.drop_eq_nil_of_le (by omega),show l.length-(i+1)=0 by omega];exact⟨_,_,rfl,by simp[maxLen],fun h=>absurd rfl h⟩
 ·rw[if_neg he];refine⟨_,_,by rw[List.length_drop],by rw[List.length_drop];omega,fun hne=>?_⟩;obtain⟨b',off',e,hc⟩:=hx (by intro e;subst e;simp at hne);cases e;refine⟨_,_,rfl,fun q x hi r v hv=>?_⟩;rw[List.getElem?_drop] at hi;have:=hc (i+1+q) x hi r v hv;rw[←this]
  congr 2
  omega
theorem Y8(b off j cap n:Nat): ∃ad c,Value.slice (if cap=j then some (⟨b,off,none⟩:Addr) else some ⟨b,off+j*13,none⟩) n (cap-j) = .slice (some ad) n c:=by
 split<;>exact⟨_,_,rfl⟩
theorem Y9(u:World)(v:Value)(l:List Gr.Nd)(c:Bw)(s:Gr.Stp)(w:World)(hu9:AA u w)(hv9:BC u w v l)(hcp:capOk v)(hst9:Ai u c s)(hc:AP l=0)(hk:s.kind=3)(i:Nat)(hf:Gr.find l s.nd.id=some i): Calls Tryz.prog 87 #[v,.agg #[.int .i64 c.kind,.int .i64 c.c.id,.int .i64 c.c.kind,.slice c.c.af c.c.nf c.c.cf,.slice c.c.ap c.c.np c.c.cp,.int .i64 c.c.par,.int .i64 c.c.r0,.int .i64 c.c.r1,.int .i64 c.c.r2,.int .i64 c.c.r3,.int .i64 c.c.r4,.int .i64 c.c.r5,.int .i64 c.c.r6,.int .i64 c.c.r7,.bool c.reset]] w (C9 u (Gr.stepE AP l s) w):=by
 have hv:=hv9.at hu9;have hst:=hst9.grew hu9;obtain⟨hi,hid⟩:=Fy hf;have hfi:Bh l s.nd.id=(i:Int):=by unfold Bh;rw[hf]
 have hno:Gr.nodeOf l s.nd.id=some l[i]:=by unfold Gr.nodeOf;rw[hf,Option.bind_some,List.getElem?_eq_getElem hi]
 have hu:=Ld.un hc;have hl8:=(Bj hc).len;have HCK:=hY fun W2 (g:AA w W2)=>A8 v l W2 (hv.grew g)
 have HFI:=hY fun W2 (g:AA w W2)=>BB v l s.nd.id W2 (hv.grew g)
 skip
 have HKD:=hY fun W2 (g:AA w W2)=>FB v l s.nd.id W2 (hv.grew g)
 have HSF:=hY fun W2 (g:AA w W2)=>DJ _ s.nd.prog W2 (hst.nd.p.grew g)
 rw[hc] at HCK;rw[hfi] at HFI;obtain⟨lc,hr,hrel⟩:=hv9;have hlen:=BL.len hrel;have HREL:=hY hrel;have HR:=hY hr;obtain⟨a,cap,rfl,hm,hx⟩:=hv.openC;obtain⟨b,off,cx,rfl,hb,hn,x0,x1,-⟩:=hx i hi;have hnk:=hn.kind;have HCP:Hid (l.length≤cap):=hY (hcp _ _ _ rfl);clear hx hr hrel hn hv x0 hcp;have HST:=hY hst9;have HU9:=hY hu9;clear hst9 hu9;have hsk:=hst.kind;have hsi:=hst.nd.id;have hkd:c.kind=3:=by rw[←hsk];exact hk
 obtain⟨kd,⟨id,kind,af,nf,cf,ap,np,cp,par,r0,r1,r2,r3,r4,r5,r6,r7⟩,rs⟩:=c;simp only at hsk hsi hkd HSF;subst hkd;rw[hsi] at HFI HKD;have HLC:Hid (lc.length≤8∧0<lc.length∧i<lc.length∧lc.length=l.length):=hY ⟨by omega,by omega,by omega,hlen⟩;have HNL:Hid ((Value.slice (some ⟨b,off,none⟩) l.length cap) = .slice (some ⟨b,off,none⟩) lc.length cap):=hY (by rw[hlen]);have hi2:(i:Int)<(l.length:Int):=by omega
 have hi3:(i:Int)<(lc.length:Int):=by omega
 have hi0:¬((i:Int)<0):=by omega
 have hi1:0≤(i:Int):=by omega
 have HC:=hY hc;have HI:=hY hi;have HSK:=hY hsk;have HU:=hY hu;have HID:=hY hid;have HNO:=hY hno;have hset:l.take i++l.drop (i+1)=Gr.remN l s.nd.id:=Gr.remN_cut HU.o HI.o HID.o
 have he:Gr.stepE AP l s=if l[i].kind=0∨Io l s.nd.id=true then (11,[]) else Gr.finE AP (l.take i++l.drop (i+1)):=by
  unfold Gr.stepE;rw[if_neg (by rw[hc];decide),if_neg (by omega),hno];simp only;rw[if_neg (by omega),if_neg (by omega),if_pos hk];rw[hset]
  first|done|rfl|(split<;>rfl)
 rw[hsi] at he;clear hset hno hid hu hf hfi hst hc hm hlen;by_cases hb0:l[i].kind=0
 ·have he2:(Gr.stepE AP l s).1=11:=by rw[he,if_pos (.inl hb0)]
  have HE:=hY he2;have hbb:(cx.kind==0)=true:=by have h9:cx.kind=0:=(by rw[←hnk];exact hb0);rw[h9];rfl
  clear he he2 hb0 hnk hk hsk hsi;go_enter Tryz.func87,Tryz.ntmps87
  go_upto_region 5 with (go_at_call 6;((with_reducible refine Calls.mono (HCK.o _ ?_) ?_));(focus(exact gw));rintro e w1 ⟨rfl,R3,n3,rfl⟩)
  have hbx:((w.alloc (.cells #[.int .i64 3,.int .i64 id,.int .i64 kind,.slice af nf cf,.slice ap np cp,.int .i64 par,.int .i64 r0,.int .i64 r1,.int .i64 r2,.int .i64 r3,.int .i64 r4,.int .i64 r5,.int .i64 r6,.int .i64 r7,.bool rs] 66)).more R3 n3).heap[w.heap.size]? = some (.cells #[.int .i64 3,.int .i64 id,.int .i64 kind,.slice af nf cf,.slice ap np cp,.int .i64 par,.int .i64 r0,.int .i64 r1,.int .i64 r2,.int .i64 r3,.int .i64 r4,.int .i64 r5,.int .i64 r6,.int .i64 r7,.bool rs] 66):=AC gw (AO w _ _ rfl);have hgw:AA w ((w.alloc (.cells #[.int .i64 3,.int .i64 id,.int .i64 kind,.slice af nf cf,.slice ap np cp,.int .i64 par,.int .i64 r0,.int .i64 r1,.int .i64 r2,.int .i64 r3,.int .i64 r4,.int .i64 r5,.int .i64 r6,.int .i64 r7,.bool rs] 66)).more R3 n3):=gw;generalize (w.alloc (.cells #[.int .i64 3,.int .i64 id,.int .i64 kind,.slice af nf cf,.slice ap np cp,.int .i64 par,.int .i64 r0,.int .i64 r1,.int .i64 r2,.int .i64 r3,.int .i64 r4,.int .i64 r5,.int .i64 r6,.int .i64 r7,.bool rs] 66)).more R3 n3=wb at *;have y0:=cell_of (o:=0) hbx;have y1:=cell_of (o:=1) hbx;have y2:=cell_of (o:=2) hbx;have y3:=cell_of (o:=3) hbx;have y4:=cell_of (o:=4) hbx;have y5:=cell_of (o:=5) hbx;have y6:=cell_of (o:=6) hbx;have y7:=cell_of (o:=7) hbx;have y8:=cell_of (o:=8) hbx;have y9:=cell_of (o:=9) hbx;have y10:=cell_of (o:=10) hbx;have y11:=cell_of (o:=11) hbx;have y12:=cell_of (o:=12) hbx;have y13:=cell_of (o:=13) hbx;have y14:=cell_of (o:=14) hbx;simp at y0 y1 y2 y3 y4 y5 y6 y7 y8 y9 y10 y11 y12 y13 y14;have pX:=Ad.mk (AB hbx);have hszb:=AB hbx;have HGW:=hY hgw;have HSZ:=hY hszb;have x1':=Al hgw x1;have pb':=Ad.ofCell x1';clear hbx hgw hszb x1 hb
  go_upto_region 6 with (at_builtin;go_loud (refine Bi (w0:=wb) (enc:=Ae) (l:=([]:List BM)) (v:=.slice (some ⟨_,0,none⟩) 0 0) rfl (.tmp 20) (.tmp 21) 22 _ _ _ lc rfl Tryz.underlying22 CX rfl (by decide) AZ BP rfl (OwnAt.lit _ _ (by simp[go_sem]) (by omega)) gw rfl (HR.o.grew (HGW.o.trans gw)) (.inr ⟨_,_,HNL.o⟩) (by have:=HLC.o;simp only[List.length_nil];omega) (by decide) ?_);intro v6 R6 n6 ho6 _;obtain⟨b6,c6,rfl⟩:=Bu ho6 (by have:=HLC.o;simp only[List.length_append,List.length_nil];omega);simp only[List.length_append,List.length_nil,Nat.zero_add,List.nil_append] at ho6 ⊢;(have HO6:=hY ho6);clear ho6)
  go_wp2_with (go_at_call 16;((with_reducible refine Calls.mono (HFI.o _ ?_) ?_));(focus(exact HGW.o.trans gw));rintro e w1 ⟨rfl,hw1⟩;obtain rfl:=hw1)
  exact bodyPost_ret (v:=.tuple #[.slice none 0 0,.int .i64 11]) (by simp[results,Tryz.results87,go_sem]) rfl (CQ HE.o (by decide) (HGW.o.trans gw))
 have hbb:(cx.kind==0)=false:=by rw[beq_eq_false_iff_ne,←hnk];exact hb0
 cases hkb:Io l id
 case true =>
  have he2:(Gr.stepE AP l s).1=11:=by rw[he,if_pos (.inr hkb)]
  have HE:=hY he2;rw[hkb] at HKD;clear he he2 hb0 hnk hk hsk hsi hkb;go_enter Tryz.func87,Tryz.ntmps87
  go_upto_region 5 with (go_at_call 6;((with_reducible refine Calls.mono (HCK.o _ ?_) ?_));(focus(exact gw));rintro e w1 ⟨rfl,R3,n3,rfl⟩)
  have hbx:((w.alloc (.cells #[.int .i64 3,.int .i64 id,.int .i64 kind,.slice af nf cf,.slice ap np cp,.int .i64 par,.int .i64 r0,.int .i64 r1,.int .i64 r2,.int .i64 r3,.int .i64 r4,.int .i64 r5,.int .i64 r6,.int .i64 r7,.bool rs] 66)).more R3 n3).heap[w.heap.size]? = some (.cells #[.int .i64 3,.int .i64 id,.int .i64 kind,.slice af nf cf,.slice ap np cp,.int .i64 par,.int .i64 r0,.int .i64 r1,.int .i64 r2,.int .i64 r3,.int .i64 r4,.int .i64 r5,.int .i64 r6,.int .i64 r7,.bool rs] 66):=AC gw (AO w _ _ rfl);have hgw:AA w ((w.alloc (.cells #[.int .i64 3,.int .i64 id,.int .i64 kind,.slice af nf cf,.slice ap np cp,.int .i64 par,.int .i64 r0,.int .i64 r1,.int .i64 r2,.int .i64 r3,.int .i64 r4,.int .i64 r5,.int .i64 r6,.int .i64 r7,.bool rs] 66)).more R3 n3):=gw;generalize (w.alloc (.cells #[.int .i64 3,.int .i64 id,.int .i64 kind,.slice af nf cf,.slice ap np cp,.int .i64 par,.int .i64 r0,.int .i64 r1,.int .i64 r2,.int .i64 r3,.int .i64 r4,.int .i64 r5,.int .i64 r6,.int .i64 r7,.bool rs] 66)).more R3 n3=wb at *;have y0:=cell_of (o:=0) hbx;have y1:=cell_of (o:=1) hbx;have y2:=cell_of (o:=2) hbx;have y3:=cell_of (o:=3) hbx;have y4:=cell_of (o:=4) hbx;have y5:=cell_of (o:=5) hbx;have y6:=cell_of (o:=6) hbx;have y7:=cell_of (o:=7) hbx;have y8:=cell_of (o:=8) hbx;have y9:=cell_of (o:=9) hbx;have y10:=cell_of (o:=10) hbx;have y11:=cell_of (o:=11) hbx;have y12:=cell_of (o:=12) hbx;have y13:=cell_of (o:=13) hbx;have y14:=cell_of (o:=14) hbx;simp at y0 y1 y2 y3 y4 y5 y6 y7 y8 y9 y10 y11 y12 y13 y14;have pX:=Ad.mk (AB hbx);have hszb:=AB hbx;have HGW:=hY hgw;have HSZ:=hY hszb;have x1':=Al hgw x1;have pb':=Ad.ofCell x1';clear hbx hgw hszb x1 hb
  go_upto_region 6 with (at_builtin;go_loud (refine Bi (w0:=wb) (enc:=Ae) (l:=([]:List BM)) (v:=.slice (some ⟨_,0,none⟩) 0 0) rfl (.tmp 20) (.tmp 21) 22 _ _ _ lc rfl Tryz.underlying22 CX rfl (by decide) AZ BP rfl (OwnAt.lit _ _ (by simp[go_sem]) (by omega)) gw rfl (HR.o.grew (HGW.o.trans gw)) (.inr ⟨_,_,HNL.o⟩) (by have:=HLC.o;simp only[List.length_nil];omega) (by decide) ?_);intro v6 R6 n6 ho6 _;obtain⟨b6,c6,rfl⟩:=Bu ho6 (by have:=HLC.o;simp only[List.length_append,List.length_nil];omega);simp only[List.length_append,List.length_nil,Nat.zero_add,List.nil_append] at ho6 ⊢;(have HO6:=hY ho6);clear ho6)
  go_wp2_with (first|(go_at_call 16;((with_reducible refine Calls.mono (HFI.o _ ?_) ?_));(focus(exact HGW.o.trans gw));rintro e w1 ⟨rfl,hw1⟩;obtain rfl:=hw1)|(go_at_call 119;((with_reducible refine Calls.mono (HKD.o _ ?_) ?_));(focus(exact HGW.o.trans gw));rintro e w1 ⟨rfl,hw1⟩;obtain rfl:=hw1))
  exact bodyPost_ret (v:=.tuple #[.slice none 0 0,.int .i64 11]) (by simp[results,Tryz.results87,go_sem]) rfl (CQ HE.o (by decide) (HGW.o.trans gw))
 obtain⟨l9,hl9⟩:∃l9,l9=l.take i++l.drop (i+1):=⟨_,rfl⟩;have he2:Gr.stepE AP l s=Gr.finE AP l9:=by rw[hl9,he,if_neg (fun q=>q.elim (fun q=>hb0 q) (fun q=>by rw[hkb] at q;cases q))]
 have HE:=hY he2;have HL9:=hY hl9;rw[hkb] at HKD;clear he he2 hb0 hnk hk hsk hsi hkb hl9;go_enter Tryz.func87,Tryz.ntmps87
 go_upto_region 5 with (go_at_call 6;((with_reducible refine Calls.mono (HCK.o _ ?_) ?_));(focus(exact gw));rintro e w1 ⟨rfl,R3,n3,rfl⟩)
 have hbx:((w.alloc (.cells #[.int .i64 3,.int .i64 id,.int .i64 kind,.slice af nf cf,.slice ap np cp,.int .i64 par,.int .i64 r0,.int .i64 r1,.int .i64 r2,.int .i64 r3,.int .i64 r4,.int .i64 r5,.int .i64 r6,.int .i64 r7,.bool rs] 66)).more R3 n3).heap[w.heap.size]? = some (.cells #[.int .i64 3,.int .i64 id,.int .i64 kind,.slice af nf cf,.slice ap np cp,.int .i64 par,.int .i64 r0,.int .i64 r1,.int .i64 r2,.int .i64 r3,.int .i64 r4,.int .i64 r5,.int .i64 r6,.int .i64 r7,.bool rs] 66):=AC gw (AO w _ _ rfl);have hgw:AA w ((w.alloc (.cells #[.int .i64 3,.int .i64 id,.int .i64 kind,.slice af nf cf,.slice ap np cp,.int .i64 par,.int .i64 r0,.int .i64 r1,.int .i64 r2,.int .i64 r3,.int .i64 r4,.int .i64 r5,.int .i64 r6,.int .i64 r7,.bool rs] 66)).more R3 n3):=gw;generalize (w.alloc (.cells #[.int .i64 3,.int .i64 id,.int .i64 kind,.slice af nf cf,.slice ap np cp,.int .i64 par,.int .i64 r0,.int .i64 r1,.int .i64 r2,.int .i64 r3,.int .i64 r4,.int .i64 r5,.int .i64 r6,.int .i64 r7,.bool rs] 66)).more R3 n3=wb at *;have y0:=cell_of (o:=0) hbx;have y1:=cell_of (o:=1) hbx;have y2:=cell_of (o:=2) hbx;have y3:=cell_of (o:=3) hbx;have y4:=cell_of (o:=4) hbx;have y5:=cell_of (o:=5) hbx;have y6:=cell_of (o:=6) hbx;have y7:=cell_of (o:=7) hbx;have y8:=cell_of (o:=8) hbx;have y9:=cell_of (o:=9) hbx;have y10:=cell_of (o:=10) hbx;have y11:=cell_of (o:=11) hbx;have y12:=cell_of (o:=12) hbx;have y13:=cell_of (o:=13) hbx;have y14:=cell_of (o:=14) hbx;simp at y0 y1 y2 y3 y4 y5 y6 y7 y8 y9 y10 y11 y12 y13 y14;have pX:=Ad.mk (AB hbx);have hszb:=AB hbx;have HGW:=hY hgw;have HSZ:=hY hszb;have x1':=Al hgw x1;have pb':=Ad.ofCell x1';clear hbx hgw hszb x1 hb
 go_upto_region 6 with (at_builtin;go_loud (refine Bi (w0:=wb) (enc:=Ae) (l:=([]:List BM)) (v:=.slice (some ⟨_,0,none⟩) 0 0) rfl (.tmp 20) (.tmp 21) 22 _ _ _ lc rfl Tryz.underlying22 CX rfl (by decide) AZ BP rfl (OwnAt.lit _ _ (by simp[go_sem]) (by omega)) gw rfl (HR.o.grew (HGW.o.trans gw)) (.inr ⟨_,_,HNL.o⟩) (by have:=HLC.o;simp only[List.length_nil];omega) (by decide) ?_);intro v6 R6 n6 ho6 _;obtain⟨b6,c6,rfl⟩:=Bu ho6 (by have:=HLC.o;simp only[List.length_append,List.length_nil];omega);simp only[List.length_append,List.length_nil,Nat.zero_add,List.nil_append] at ho6 ⊢;(have HO6:=hY ho6);clear ho6)
 go_upto_region 24 with (first|(go_at_call 16;((with_reducible refine Calls.mono (HFI.o _ ?_) ?_));(focus(exact HGW.o.trans gw));rintro e w1 ⟨rfl,hw1⟩;obtain rfl:=hw1)|(go_at_call 119;((with_reducible refine Calls.mono (HKD.o _ ?_) ?_));(focus(exact HGW.o.trans gw));rintro e w1 ⟨rfl,hw1⟩;obtain rfl:=hw1))
 have hg6:AA wb (wb.more R6 n6):=gw;have HG6:=hY hg6;have y0':=Al hg6 y0;have pX':=Ad.ofCell y0';clear HO6 hg6 y0 y1 y2 y3 y4 y5 y6 y7 y8 y9 y10 y11 y12 y13 y14 pX x1' pb';have HGW2:Hid (AA w (wb.more R6 n6)):=hY (HGW.o.trans HG6.o);have HSZ2:Hid (w.heap.size<(wb.more R6 n6).heap.size):=hY (by have:=HSZ.o;have:=HG6.o.below.size;omega);clear HGW HSZ HG6;generalize wb.more R6 n6=wb at *
 rename_i wb0
 have HT:Hid (AX 13 Ae wb (.slice (some ⟨b,off,none⟩) i cap) (lc.take i)):=hY ((AX.take HR.o (by have:=HLC.o;omega)).grew HGW2.o);have hcap:=HCP.o;obtain⟨j,hj⟩:∃j:Nat,j=i+1:=⟨_,rfl⟩;have hwr:IntKind.i64.wrap ((i:Int)+1)=(j:Int):=(IntWalk.i64_in _ (by omega)).trans (by omega);have HD:Hid (∀W2,AA wb W2→AX 13 Ae W2 (.slice (if cap=j then some ⟨b,off,none⟩ else some ⟨b,off+j*13,none⟩) (l.length-j) (cap-j)) (lc.drop (i+1))):=hY fun W2 g=>V6 (HR.o.grew (HGW2.o.trans g)) (by have:=HLC.o;omega) (by have:=HLC.o;omega) (by have:=HLC.o;omega) hj
 have HTL:Hid ((lc.take i).length=i∧(lc.drop (i+1)).length=l.length-j∧i≤8∧l.length-j≤8):=hY ⟨by rw[List.length_take];have:=HLC.o;omega,by rw[List.length_drop];have:=HLC.o;omega,by have:=HLC.o;omega,by have:=HLC.o;omega⟩;have HTN:Hid (∃ad c,Value.slice (some (⟨b,off,none⟩:Addr)) i cap = .slice (some ad) (lc.take i).length c):=hY (by rw[HTL.o.1];exact⟨_,_,rfl⟩);have HDN:Hid (∃ad c,Value.slice (if cap=j then some (⟨b,off,none⟩:Addr) else some ⟨b,off+j*13,none⟩) (l.length-j) (cap-j) = .slice (some ad) (lc.drop (i+1)).length c):=hY (by rw[HTL.o.2.1];exact Y8 b off j cap (l.length-j));have hjl:j≤l.length:=by have:=HI.o;omega
 have hjc:(j:Int)≤(cap:Int):=by omega
 have hic:(i:Int)≤(cap:Int):=by omega
 have hjl2:(j:Int)≤(l.length:Int):=by omega
 have hlcap:(l.length:Int)≤(cap:Int):=by omega
 have HJ:=hY hj;have pBn:∀q,Ad w.heap.size (wb.drewN q):=fun q=>pX'
 clear hj hcap hl8;refine wp_region_noPanic ?_
 go_region_law (first
  | (refine Jw (Gx rfl) ?_; apply XQ (w0 := wb) (l := ([] : List BM)) (l2 := lc.take i) (s := .tmp 82) (x := .tmp 85) (t := 22) (ho := rfl) (ht := Tryz.underlying22) (hinfo := CX) (henc := AZ) (hone := BP) (hz := rfl) (hs := rfl) (hx := rfl) (hk := by decide) (hby := by decide); (case hlen => first | (have := HTL.o; simp only [List.length_nil]; omega) | fail "L1"); (case hown => first | exact OwnAt.lit _ _ (by simp [go_sem]) (by simp [go_sem]) | fail "O1"); (case hg => first | exact gw | fail "G1"); (case hrows => first | exact HT.o.grew gw | fail "R1"); (case hnil => exact .inr HTN.o); intro v7 R7 N7 hA; (have HA7 : Hid (OwnAt wb.heap.size 64 13 Ae (wb.more R7 N7) v7 (lc.take i)) := hY hA); clear hA)
  | (refine Jw (Gx rfl) ?_; apply XQ (w0 := wb) (l := lc.take i) (l2 := lc.drop (i + 1)) (vx := .slice (if cap = j then some ⟨b, off, none⟩ else some ⟨b, off + j * 13, none⟩) (l.length - j) (cap - j)) (s := .tmp 86) (x := .tmp 90) (t := 22) (ho := rfl) (ht := Tryz.underlying22) (hinfo := CX) (henc := AZ) (hone := BP) (hz := rfl) (hs := rfl) (hx := rfl) (hk := by decide) (hby := by decide); (case hlen => first | (have := HTL.o; omega) | fail "L2"); (case hown => first | exact HA7.o | exact OwnAt.grew HA7.o gw | fail "O2"); (case hg => first | exact gw | fail "G2"); (case hrows => first | exact HD.o _ gw | fail "R2"); (case hnil => exact .inr (HDN.o)); intro v8 R8 N8 hA; (have HA8 := hY hA); obtain ⟨k9, a9, c9, rfl⟩ : ∃ (k9 : Nat) (a9 : Option Addr) (c9 : Nat), v8 = .slice a9 k9 c9 := (by obtain ⟨a, c, h⟩ := (OwnAt.rows hA AZ).len; exact ⟨_, a, c, h⟩); clear hA))
 all_goals
  refine NoPanic.normal ?_;clear HD HDN;generalize (if cap=j then some (⟨b,off,none⟩:Addr) else some ⟨b,off+j*13,none⟩)=zz;have hOA:Fj u w (wb.more R8 N8) (.slice a9 k9 c9) (lc.take i++lc.drop (i+1)) l9:=⟨OwnAt.low HA8.o (by have:=HSZ2.o;omega),by rw[HL9.o];exact BL.cut HREL.o i,HGW2.o.trans gw⟩;have HOUT:=hY hOA;obtain⟨q,hq⟩:∃q,AP l9=q:=⟨_,rfl⟩;have HQ:=hY hq;have HCK9:=hY fun W2 (g:AA (wb.more R8 N8) W2)=>A8 _ l9 W2 ((hOA.at.grew g).at ((HU9.o.trans hOA.2.2).trans g))
  rw[hq] at HCK9;clear hOA hq;by_cases hq0:q=0
  ·subst hq0
   go_wp2_with (go_at_call 6;((with_reducible refine Calls.mono (HCK9.o _ ?_) ?_));(focus(exact gw));rintro e w1 ⟨rfl,R5,n5,rfl⟩)
   exact bodyPost_ret (v:=.tuple #[.slice a9 k9 c9,.int .i64 0]) (by simp[results,Tryz.results87,go_sem]) rfl (Iw HQ.o HE.o HOUT.o.at (OwnAt.capOk HOUT.o.1) gw (HGW2.o.trans gw))
  ·have hb2:(q != 0)=true:=by rw[bne_iff_ne];exact hq0
   have HQ0:=hY hq0;clear hq0
   go_wp2_with (go_at_call 6;((with_reducible refine Calls.mono (HCK9.o _ ?_) ?_));(focus(exact gw));rintro e w1 ⟨rfl,R5,n5,rfl⟩)
   exact bodyPost_ret (v:=.tuple #[.slice none 0 0,.int .i64 q]) (by simp[results,Tryz.results87,go_sem]) rfl (Iu HQ.o HQ0.o HE.o (HGW2.o.trans gw))
end Go.Proofs.YtgebkpgilgppgaaGreat
namespace Go.Proofs.YtgebkpgilgppgaaGreat
open Go.RowKit Ga
theorem V7(u:World)(v:Value)(l:List Gr.Nd)(c:Bw)(s:Gr.Stp)(w:World)(hu9:AA u w)(hv9:BC u w v l)(hcp:capOk v)(hst9:Ai u c s)(hc:AP l=0)(hk:1≤s.kind∧s.kind≤5)(hf:Gr.find l s.nd.id=none): Calls Tryz.prog 87 #[v,.agg #[.int .i64 c.kind,.int .i64 c.c.id,.int .i64 c.c.kind,.slice c.c.af c.c.nf c.c.cf,.slice c.c.ap c.c.np c.c.cp,.int .i64 c.c.par,.int .i64 c.c.r0,.int .i64 c.c.r1,.int .i64 c.c.r2,.int .i64 c.c.r3,.int .i64 c.c.r4,.int .i64 c.c.r5,.int .i64 c.c.r6,.int .i64 c.c.r7,.bool c.reset]] w (C9 u (Gr.stepE AP l s) w):=by
 have hndk:=hst9.nd.kind;have hv:=hv9.at hu9;have hst:=hst9.grew hu9;have hfi:Bh l s.nd.id = -1:=by unfold Bh;rw[hf]
 have hno:Gr.nodeOf l s.nd.id=none:=by unfold Gr.nodeOf;rw[hf];rfl
 have hl8:=(Bj hc).len;have HCK:=hY fun W2 (g:AA w W2)=>A8 v l W2 (hv.grew g)
 have HFI:=hY fun W2 (g:AA w W2)=>BB v l s.nd.id W2 (hv.grew g)
 skip
 have HKD:=hY fun W2 (g:AA w W2)=>FB v l s.nd.id W2 (hv.grew g)
 have HSF:=hY fun W2 (g:AA w W2)=>DJ _ s.nd.prog W2 (hst.nd.p.grew g)
 rw[hc] at HCK;rw[hfi] at HFI;obtain⟨lc,hr,hrel⟩:=hv9;have hlen:=BL.len hrel;have HREL:=hY hrel;have HR:=hY hr;obtain⟨a,cap,rfl,hm,hx⟩:=hv.openC;obtain⟨b,off,cx,rfl,hb,hn,x0,x1,-⟩:=hx 0 (Nt hc);have HCP:Hid (l.length≤cap):=hY (hcp _ _ _ rfl);clear hx hr hrel hn hv x0 hcp;have HST:=hY hst9;have HU9:=hY hu9;clear hst9 hu9;have hsk:=hst.kind;have hsi:=hst.nd.id;obtain⟨kd,⟨id,kind,af,nf,cf,ap,np,cp,par,r0,r1,r2,r3,r4,r5,r6,r7⟩,rs⟩:=c;simp only at hsk hsi HSF;rw[hsi] at HFI HKD;have HLC:Hid (lc.length≤8∧0<lc.length∧lc.length=l.length):=hY ⟨by omega,by have:=Nt hc;omega,hlen⟩;have HNL:Hid ((Value.slice (some ⟨b,off,none⟩) l.length cap) = .slice (some ⟨b,off,none⟩) lc.length cap):=hY (by rw[hlen]);have HC:=hY hc;have HSK:=hY hsk;have HNO:=hY hno;simp only at hndk
 have he:Gr.stepE AP l s=if s.kind=2 then (if s.nd.kind=0 then (11,[]) else Gr.finE AP (l++[s.nd])) else (12,[]):=by
  unfold Gr.stepE;rw[if_neg (by rw[hc];decide),if_neg (by omega),hno]
 clear hno hf hfi hst hc hsi hm hlen;have hk1:¬(kd<1):=by omega
 have hk5:¬(5<kd):=by omega
 by_cases h2:kd=2
 case neg =>
  have he2:(Gr.stepE AP l s).1=12:=by rw[he,if_neg (by rw[hsk];exact h2)]
  have HE:=hY he2;have hb2:(kd==2)=false:=by simpa using h2
  clear he he2 hk hsk hndk h2;go_enter Tryz.func87,Tryz.ntmps87
  go_upto_region 5 with (go_at_call 6;((with_reducible refine Calls.mono (HCK.o _ ?_) ?_));(focus(exact gw));rintro e w1 ⟨rfl,R3,n3,rfl⟩)
  have hbx:((w.alloc (.cells #[.int .i64 kd,.int .i64 id,.int .i64 kind,.slice af nf cf,.slice ap np cp,.int .i64 par,.int .i64 r0,.int .i64 r1,.int .i64 r2,.int .i64 r3,.int .i64 r4,.int .i64 r5,.int .i64 r6,.int .i64 r7,.bool rs] 66)).more R3 n3).heap[w.heap.size]? = some (.cells #[.int .i64 kd,.int .i64 id,.int .i64 kind,.slice af nf cf,.slice ap np cp,.int .i64 par,.int .i64 r0,.int .i64 r1,.int .i64 r2,.int .i64 r3,.int .i64 r4,.int .i64 r5,.int .i64 r6,.int .i64 r7,.bool rs] 66):=AC gw (AO w _ _ rfl);have hgw:AA w ((w.alloc (.cells #[.int .i64 kd,.int .i64 id,.int .i64 kind,.slice af nf cf,.slice ap np cp,.int .i64 par,.int .i64 r0,.int .i64 r1,.int .i64 r2,.int .i64 r3,.int .i64 r4,.int .i64 r5,.int .i64 r6,.int .i64 r7,.bool rs] 66)).more R3 n3):=gw;generalize (w.alloc (.cells #[.int .i64 kd,.int .i64 id,.int .i64 kind,.slice af nf cf,.slice ap np cp,.int .i64 par,.int .i64 r0,.int .i64 r1,.int .i64 r2,.int .i64 r3,.int .i64 r4,.int .i64 r5,.int .i64 r6,.int .i64 r7,.bool rs] 66)).more R3 n3=wb at *;have y0:=cell_of (o:=0) hbx;have y1:=cell_of (o:=1) hbx;have y2:=cell_of (o:=2) hbx;have y3:=cell_of (o:=3) hbx;have y4:=cell_of (o:=4) hbx;have y5:=cell_of (o:=5) hbx;have y6:=cell_of (o:=6) hbx;have y7:=cell_of (o:=7) hbx;have y8:=cell_of (o:=8) hbx;have y9:=cell_of (o:=9) hbx;have y10:=cell_of (o:=10) hbx;have y11:=cell_of (o:=11) hbx;have y12:=cell_of (o:=12) hbx;have y13:=cell_of (o:=13) hbx;have y14:=cell_of (o:=14) hbx;simp at y0 y1 y2 y3 y4 y5 y6 y7 y8 y9 y10 y11 y12 y13 y14;have pX:=Ad.mk (AB hbx);have hszb:=AB hbx;have HGW:=hY hgw;have HSZ:=hY hszb;have x1':=Al hgw x1;have pb':=Ad.ofCell x1';clear hbx hgw hszb x1 hb
  go_upto_region 6 with (at_builtin;go_loud (refine Bi (w0:=wb) (enc:=Ae) (l:=([]:List BM)) (v:=.slice (some ⟨_,0,none⟩) 0 0) rfl (.tmp 20) (.tmp 21) 22 _ _ _ lc rfl Tryz.underlying22 CX rfl (by decide) AZ BP rfl (OwnAt.lit _ _ (by simp[go_sem]) (by omega)) gw rfl (HR.o.grew (HGW.o.trans gw)) (.inr ⟨_,_,HNL.o⟩) (by have:=HLC.o;simp only[List.length_nil];omega) (by decide) ?_);intro v6 R6 n6 ho6 _;obtain⟨b6,c6,rfl⟩:=Bu ho6 (by have:=HLC.o;simp only[List.length_append,List.length_nil];omega);simp only[List.length_append,List.length_nil,Nat.zero_add,List.nil_append] at ho6 ⊢;(have HO6:=hY ho6);clear ho6)
  go_wp2_with (go_at_call 16;((with_reducible refine Calls.mono (HFI.o _ ?_) ?_));(focus(exact HGW.o.trans gw));rintro e w1 ⟨rfl,hw1⟩;obtain rfl:=hw1)
  exact bodyPost_ret (v:=.tuple #[.slice none 0 0,.int .i64 12]) (by simp[results,Tryz.results87,go_sem]) rfl (CQ HE.o (by decide) (HGW.o.trans gw))
 subst h2;by_cases h0:kind=0
 ·have he2:(Gr.stepE AP l s).1=11:=by rw[he,if_pos hsk,if_pos (by rw[hndk];exact h0)]
  have HE:=hY he2;subst h0;clear he he2 hk hsk hndk hk1 hk5;go_enter Tryz.func87,Tryz.ntmps87
  go_upto_region 5 with (go_at_call 6;((with_reducible refine Calls.mono (HCK.o _ ?_) ?_));(focus(exact gw));rintro e w1 ⟨rfl,R3,n3,rfl⟩)
  have hbx:((w.alloc (.cells #[.int .i64 2,.int .i64 id,.int .i64 0,.slice af nf cf,.slice ap np cp,.int .i64 par,.int .i64 r0,.int .i64 r1,.int .i64 r2,.int .i64 r3,.int .i64 r4,.int .i64 r5,.int .i64 r6,.int .i64 r7,.bool rs] 66)).more R3 n3).heap[w.heap.size]? = some (.cells #[.int .i64 2,.int .i64 id,.int .i64 0,.slice af nf cf,.slice ap np cp,.int .i64 par,.int .i64 r0,.int .i64 r1,.int .i64 r2,.int .i64 r3,.int .i64 r4,.int .i64 r5,.int .i64 r6,.int .i64 r7,.bool rs] 66):=AC gw (AO w _ _ rfl);have hgw:AA w ((w.alloc (.cells #[.int .i64 2,.int .i64 id,.int .i64 0,.slice af nf cf,.slice ap np cp,.int .i64 par,.int .i64 r0,.int .i64 r1,.int .i64 r2,.int .i64 r3,.int .i64 r4,.int .i64 r5,.int .i64 r6,.int .i64 r7,.bool rs] 66)).more R3 n3):=gw;generalize (w.alloc (.cells #[.int .i64 2,.int .i64 id,.int .i64 0,.slice af nf cf,.slice ap np cp,.int .i64 par,.int .i64 r0,.int .i64 r1,.int .i64 r2,.int .i64 r3,.int .i64 r4,.int .i64 r5,.int .i64 r6,.int .i64 r7,.bool rs] 66)).more R3 n3=wb at *;have y0:=cell_of (o:=0) hbx;have y1:=cell_of (o:=1) hbx;have y2:=cell_of (o:=2) hbx;have y3:=cell_of (o:=3) hbx;have y4:=cell_of (o:=4) hbx;have y5:=cell_of (o:=5) hbx;have y6:=cell_of (o:=6) hbx;have y7:=cell_of (o:=7) hbx;have y8:=cell_of (o:=8) hbx;have y9:=cell_of (o:=9) hbx;have y10:=cell_of (o:=10) hbx;have y11:=cell_of (o:=11) hbx;have y12:=cell_of (o:=12) hbx;have y13:=cell_of (o:=13) hbx;have y14:=cell_of (o:=14) hbx;simp at y0 y1 y2 y3 y4 y5 y6 y7 y8 y9 y10 y11 y12 y13 y14;have pX:=Ad.mk (AB hbx);have hszb:=AB hbx;have HGW:=hY hgw;have HSZ:=hY hszb;have x1':=Al hgw x1;have pb':=Ad.ofCell x1';clear hbx hgw hszb x1 hb
  go_upto_region 6 with (at_builtin;go_loud (refine Bi (w0:=wb) (enc:=Ae) (l:=([]:List BM)) (v:=.slice (some ⟨_,0,none⟩) 0 0) rfl (.tmp 20) (.tmp 21) 22 _ _ _ lc rfl Tryz.underlying22 CX rfl (by decide) AZ BP rfl (OwnAt.lit _ _ (by simp[go_sem]) (by omega)) gw rfl (HR.o.grew (HGW.o.trans gw)) (.inr ⟨_,_,HNL.o⟩) (by have:=HLC.o;simp only[List.length_nil];omega) (by decide) ?_);intro v6 R6 n6 ho6 _;obtain⟨b6,c6,rfl⟩:=Bu ho6 (by have:=HLC.o;simp only[List.length_append,List.length_nil];omega);simp only[List.length_append,List.length_nil,Nat.zero_add,List.nil_append] at ho6 ⊢;(have HO6:=hY ho6);clear ho6)
  go_wp2_with (go_at_call 16;((with_reducible refine Calls.mono (HFI.o _ ?_) ?_));(focus(exact HGW.o.trans gw));rintro e w1 ⟨rfl,hw1⟩;obtain rfl:=hw1)
  exact bodyPost_ret (v:=.tuple #[.slice none 0 0,.int .i64 11]) (by simp[results,Tryz.results87,go_sem]) rfl (CQ HE.o (by decide) (HGW.o.trans gw))
 have he2:Gr.stepE AP l s=Gr.finE AP (l++[s.nd]):=by rw[he,if_pos hsk,if_neg (by rw[hndk];exact h0)]
 have HE:=hY he2;have hb0:(kind==0)=false:=by simpa using h0
 clear he he2 hk hsk hndk hk1 hk5 h0;go_enter Tryz.func87,Tryz.ntmps87
 go_upto_region 5 with (go_at_call 6;((with_reducible refine Calls.mono (HCK.o _ ?_) ?_));(focus(exact gw));rintro e w1 ⟨rfl,R3,n3,rfl⟩)
 have hbx:((w.alloc (.cells #[.int .i64 2,.int .i64 id,.int .i64 kind,.slice af nf cf,.slice ap np cp,.int .i64 par,.int .i64 r0,.int .i64 r1,.int .i64 r2,.int .i64 r3,.int .i64 r4,.int .i64 r5,.int .i64 r6,.int .i64 r7,.bool rs] 66)).more R3 n3).heap[w.heap.size]? = some (.cells #[.int .i64 2,.int .i64 id,.int .i64 kind,.slice af nf cf,.slice ap np cp,.int .i64 par,.int .i64 r0,.int .i64 r1,.int .i64 r2,.int .i64 r3,.int .i64 r4,.int .i64 r5,.int .i64 r6,.int .i64 r7,.bool rs] 66):=AC gw (AO w _ _ rfl);have hgw:AA w ((w.alloc (.cells #[.int .i64 2,.int .i64 id,.int .i64 kind,.slice af nf cf,.slice ap np cp,.int .i64 par,.int .i64 r0,.int .i64 r1,.int .i64 r2,.int .i64 r3,.int .i64 r4,.int .i64 r5,.int .i64 r6,.int .i64 r7,.bool rs] 66)).more R3 n3):=gw;generalize (w.alloc (.cells #[.int .i64 2,.int .i64 id,.int .i64 kind,.slice af nf cf,.slice ap np cp,.int .i64 par,.int .i64 r0,.int .i64 r1,.int .i64 r2,.int .i64 r3,.int .i64 r4,.int .i64 r5,.int .i64 r6,.int .i64 r7,.bool rs] 66)).more R3 n3=wb at *;have y0:=cell_of (o:=0) hbx;have y1:=cell_of (o:=1) hbx;have y2:=cell_of (o:=2) hbx;have y3:=cell_of (o:=3) hbx;have y4:=cell_of (o:=4) hbx;have y5:=cell_of (o:=5) hbx;have y6:=cell_of (o:=6) hbx;have y7:=cell_of (o:=7) hbx;have y8:=cell_of (o:=8) hbx;have y9:=cell_of (o:=9) hbx;have y10:=cell_of (o:=10) hbx;have y11:=cell_of (o:=11) hbx;have y12:=cell_of (o:=12) hbx;have y13:=cell_of (o:=13) hbx;have y14:=cell_of (o:=14) hbx;simp at y0 y1 y2 y3 y4 y5 y6 y7 y8 y9 y10 y11 y12 y13 y14;have pX:=Ad.mk (AB hbx);have hszb:=AB hbx;have HGW:=hY hgw;have HSZ:=hY hszb;have x1':=Al hgw x1;have pb':=Ad.ofCell x1';clear hbx hgw hszb x1 hb
 go_upto_region 6 with (at_builtin;go_loud (refine Bi (w0:=wb) (enc:=Ae) (l:=([]:List BM)) (v:=.slice (some ⟨_,0,none⟩) 0 0) rfl (.tmp 20) (.tmp 21) 22 _ _ _ lc rfl Tryz.underlying22 CX rfl (by decide) AZ BP rfl (OwnAt.lit _ _ (by simp[go_sem]) (by omega)) gw rfl (HR.o.grew (HGW.o.trans gw)) (.inr ⟨_,_,HNL.o⟩) (by have:=HLC.o;simp only[List.length_nil];omega) (by decide) ?_);intro v6 R6 n6 ho6 _;obtain⟨b6,c6,rfl⟩:=Bu ho6 (by have:=HLC.o;simp only[List.length_append,List.length_nil];omega);simp only[List.length_append,List.length_nil,Nat.zero_add,List.nil_append] at ho6 ⊢;(have HO6:=hY ho6);clear ho6)
 go_upto_region 12 with (go_at_call 16;((with_reducible refine Calls.mono (HFI.o _ ?_) ?_));(focus(exact HGW.o.trans gw));rintro e w1 ⟨rfl,hw1⟩;obtain rfl:=hw1)
 go_upto_region 15 with (at_builtin;go_loud (refine Am (w0:=wb) rfl (.tmp 37) (.tmp 40) 22 _ _ _ _ [⟨id,kind,af,nf,cf,ap,np,cp,par,r0,r1,r2,r3,r4,r5,r6,r7⟩] rfl Tryz.underlying22 CX rfl (by decide) AZ BP rfl (OwnAt.grew HO6.o gw) gw rfl (XB _ _ _ _ rfl (by simp[go_sem])) (by have:=HLC.o;simp;omega) (by decide) (by simp) ?_);intro v8 W8 hA;(have y0':=Al hA.1 y0);(have pX':=Ad.ofCell y0');(have HA8:=hY hA);obtain⟨k9,a9,c9,rfl⟩:∃(k9:Nat) (a9:Option Addr) (c9:Nat),v8 = .slice a9 k9 c9:=(by obtain⟨a,c,h⟩:=(OwnAt.rows hA.2.1 AZ).len;exact⟨_,a,c,h⟩);clear hA)
 have hOA:Fj u w W8 (.slice a9 k9 c9) (lc++[⟨id,kind,af,nf,cf,ap,np,cp,par,r0,r1,r2,r3,r4,r5,r6,r7⟩]) (l++[s.nd]):=⟨OwnAt.low HA8.o.2.1 (by have:=HSZ.o;omega),BL.snoc HREL.o HST.o.nd,HGW.o.trans HA8.o.1⟩;have HOUT:=hY hOA;obtain⟨q,hq⟩:∃q,AP (l++[s.nd])=q:=⟨_,rfl⟩;have HQ:=hY hq;have HCK9:=hY fun W2 (g:AA W8 W2)=>A8 _ (l++[s.nd]) W2 ((hOA.at.grew g).at ((HU9.o.trans hOA.2.2).trans g))
 rw[hq] at HCK9;clear hOA hq y0 y1 y2 y3 y4 y5 y6 y7 y8 y9 y10 y11 y12 y13 y14 pX x1' pb';by_cases hq0:q=0
 ·subst hq0
  go_wp2_with (go_at_call 6;((with_reducible refine Calls.mono (HCK9.o _ ?_) ?_));(focus(exact gw));rintro e w1 ⟨rfl,R5,n5,rfl⟩)
  exact bodyPost_ret (v:=.tuple #[.slice a9 k9 c9,.int .i64 0]) (by simp[results,Tryz.results87,go_sem]) rfl (Iw HQ.o HE.o HOUT.o.at (OwnAt.capOk HOUT.o.1) gw (HOUT.o.2.2.trans gw))
 ·have hb2:(q != 0)=true:=by rw[bne_iff_ne];exact hq0
  have HQ0:=hY hq0;clear hq0
  go_wp2_with (go_at_call 6;((with_reducible refine Calls.mono (HCK9.o _ ?_) ?_));(focus(exact gw));rintro e w1 ⟨rfl,R5,n5,rfl⟩)
  exact bodyPost_ret (v:=.tuple #[.slice none 0 0,.int .i64 q]) (by simp[results,Tryz.results87,go_sem]) rfl (Iu HQ.o HQ0.o HE.o (HOUT.o.2.2.trans gw))
theorem Tv(u:World)(v:Value)(l:List Gr.Nd)(c:Bw)(s:Gr.Stp)(w:World)(hu9:AA u w)(hv9:BC u w v l)(hcp:capOk v)(hst9:Ai u c s)(hc:AP l=0)(hk:s.kind=2)(i:Nat)(hf:Gr.find l s.nd.id=some i): Calls Tryz.prog 87 #[v,.agg #[.int .i64 c.kind,.int .i64 c.c.id,.int .i64 c.c.kind,.slice c.c.af c.c.nf c.c.cf,.slice c.c.ap c.c.np c.c.cp,.int .i64 c.c.par,.int .i64 c.c.r0,.int .i64 c.c.r1,.int .i64 c.c.r2,.int .i64 c.c.r3,.int .i64 c.c.r4,.int .i64 c.c.r5,.int .i64 c.c.r6,.int .i64 c.c.r7,.bool c.reset]] w (C9 u (Gr.stepE AP l s) w):=by
 have hv:=hv9.at hu9;have hst:=hst9.grew hu9;obtain⟨hi,hid⟩:=Fy hf;have hfi:Bh l s.nd.id=(i:Int):=by unfold Bh;rw[hf]
 have hno:Gr.nodeOf l s.nd.id=some l[i]:=by unfold Gr.nodeOf;rw[hf,Option.bind_some,List.getElem?_eq_getElem hi]
 have hu:=Ld.un hc;have hl8:=(Bj hc).len;have HCK:=hY fun W2 (g:AA w W2)=>A8 v l W2 (hv.grew g)
 have HFI:=hY fun W2 (g:AA w W2)=>BB v l s.nd.id W2 (hv.grew g)
 skip
 have HKD:=hY fun W2 (g:AA w W2)=>FB v l s.nd.id W2 (hv.grew g)
 have HSF:=hY fun W2 (g:AA w W2)=>DJ _ s.nd.prog W2 (hst.nd.p.grew g)
 rw[hc] at HCK;rw[hfi] at HFI;obtain⟨lc,hr,hrel⟩:=hv9;have hlen:=BL.len hrel;have HREL:=hY hrel;have HR:=hY hr;obtain⟨a,cap,rfl,hm,hx⟩:=hv.openC;obtain⟨b,off,cx,rfl,hb,hn,x0,x1,-⟩:=hx i hi;have hnk:=hn.kind;have HCP:Hid (l.length≤cap):=hY (hcp _ _ _ rfl);clear hx hr hrel hn hv x0 hcp;have HST:=hY hst9;have HU9:=hY hu9;clear hst9 hu9;have hsk:=hst.kind;have hsi:=hst.nd.id;have hkd:c.kind=2:=by rw[←hsk];exact hk
 obtain⟨kd,⟨id,kind,af,nf,cf,ap,np,cp,par,r0,r1,r2,r3,r4,r5,r6,r7⟩,rs⟩:=c;simp only at hsk hsi hkd HSF;subst hkd;rw[hsi] at HFI HKD;have HLC:Hid (lc.length≤8∧0<lc.length∧i<lc.length∧lc.length=l.length):=hY ⟨by omega,by omega,by omega,hlen⟩;have HNL:Hid ((Value.slice (some ⟨b,off,none⟩) l.length cap) = .slice (some ⟨b,off,none⟩) lc.length cap):=hY (by rw[hlen]);have hi2:(i:Int)<(l.length:Int):=by omega
 have hi3:(i:Int)<(lc.length:Int):=by omega
 have hi0:¬((i:Int)<0):=by omega
 have hi1:0≤(i:Int):=by omega
 have HC:=hY hc;have HI:=hY hi;have HSK:=hY hsk;have HU:=hY hu;have HID:=hY hid;have HNO:=hY hno
 have he2:(Gr.stepE AP l s).1=13:=by
  unfold Gr.stepE;rw[if_neg (by rw[hc];decide),if_neg (by omega),hno];simp only;rw[if_pos hk]
 have HE:=hY he2;clear he2 hno hid hu hf hfi hst hc hsi hm hlen hnk hk hsk;go_enter Tryz.func87,Tryz.ntmps87
 go_upto_region 5 with (go_at_call 6;((with_reducible refine Calls.mono (HCK.o _ ?_) ?_));(focus(exact gw));rintro e w1 ⟨rfl,R3,n3,rfl⟩)
 have hbx:((w.alloc (.cells #[.int .i64 2,.int .i64 id,.int .i64 kind,.slice af nf cf,.slice ap np cp,.int .i64 par,.int .i64 r0,.int .i64 r1,.int .i64 r2,.int .i64 r3,.int .i64 r4,.int .i64 r5,.int .i64 r6,.int .i64 r7,.bool rs] 66)).more R3 n3).heap[w.heap.size]? = some (.cells #[.int .i64 2,.int .i64 id,.int .i64 kind,.slice af nf cf,.slice ap np cp,.int .i64 par,.int .i64 r0,.int .i64 r1,.int .i64 r2,.int .i64 r3,.int .i64 r4,.int .i64 r5,.int .i64 r6,.int .i64 r7,.bool rs] 66):=AC gw (AO w _ _ rfl);have hgw:AA w ((w.alloc (.cells #[.int .i64 2,.int .i64 id,.int .i64 kind,.slice af nf cf,.slice ap np cp,.int .i64 par,.int .i64 r0,.int .i64 r1,.int .i64 r2,.int .i64 r3,.int .i64 r4,.int .i64 r5,.int .i64 r6,.int .i64 r7,.bool rs] 66)).more R3 n3):=gw;generalize (w.alloc (.cells #[.int .i64 2,.int .i64 id,.int .i64 kind,.slice af nf cf,.slice ap np cp,.int .i64 par,.int .i64 r0,.int .i64 r1,.int .i64 r2,.int .i64 r3,.int .i64 r4,.int .i64 r5,.int .i64 r6,.int .i64 r7,.bool rs] 66)).more R3 n3=wb at *;have y0:=cell_of (o:=0) hbx;have y1:=cell_of (o:=1) hbx;have y2:=cell_of (o:=2) hbx;have y3:=cell_of (o:=3) hbx;have y4:=cell_of (o:=4) hbx;have y5:=cell_of (o:=5) hbx;have y6:=cell_of (o:=6) hbx;have y7:=cell_of (o:=7) hbx;have y8:=cell_of (o:=8) hbx;have y9:=cell_of (o:=9) hbx;have y10:=cell_of (o:=10) hbx;have y11:=cell_of (o:=11) hbx;have y12:=cell_of (o:=12) hbx;have y13:=cell_of (o:=13) hbx;have y14:=cell_of (o:=14) hbx;simp at y0 y1 y2 y3 y4 y5 y6 y7 y8 y9 y10 y11 y12 y13 y14;have pX:=Ad.mk (AB hbx);have hszb:=AB hbx;have HGW:=hY hgw;have HSZ:=hY hszb;have x1':=Al hgw x1;have pb':=Ad.ofCell x1';clear hbx hgw hszb x1 hb
 go_upto_region 6 with (at_builtin;go_loud (refine Bi (w0:=wb) (enc:=Ae) (l:=([]:List BM)) (v:=.slice (some ⟨_,0,none⟩) 0 0) rfl (.tmp 20) (.tmp 21) 22 _ _ _ lc rfl Tryz.underlying22 CX rfl (by decide) AZ BP rfl (OwnAt.lit _ _ (by simp[go_sem]) (by omega)) gw rfl (HR.o.grew (HGW.o.trans gw)) (.inr ⟨_,_,HNL.o⟩) (by have:=HLC.o;simp only[List.length_nil];omega) (by decide) ?_);intro v6 R6 n6 ho6 _;obtain⟨b6,c6,rfl⟩:=Bu ho6 (by have:=HLC.o;simp only[List.length_append,List.length_nil];omega);simp only[List.length_append,List.length_nil,Nat.zero_add,List.nil_append] at ho6 ⊢;(have HO6:=hY ho6);clear ho6)
 go_wp2_with (go_at_call 16;((with_reducible refine Calls.mono (HFI.o _ ?_) ?_));(focus(exact HGW.o.trans gw));rintro e w1 ⟨rfl,hw1⟩;obtain rfl:=hw1)
 exact bodyPost_ret (v:=.tuple #[.slice none 0 0,.int .i64 13]) (by simp[results,Tryz.results87,go_sem]) rfl (CQ HE.o (by decide) (HGW.o.trans gw))
end Go.Proofs.YtgebkpgilgppgaaGreat
