import Derived.Test.YtipgfjihdglocaaGreatCw31
import Derived.Test.YtipgfjihdglocaaGreatCw16
import Derived.Test.YtipgfjihdglocaaGreatCw22
import Derived.Test.YtipgfjihdglocaaGreatCw18
import Derived.Test.YtipgfjihdglocaaGreatCw9
set_option linter.unusedSimpArgs false
set_option linter.unusedVariables false
set_option maxRecDepth 100000
set_option maxHeartbeats 64000000
namespace Go.Proofs.YtipgfjihdglocaaGreat
open Go.RowKit Ga
theorem chk_p6(l:List Gr.Nd)(v:Value)(w W:World)(src:Int)(Q:Exit→Act→World→Prop)(a0:Act)
  (hfr:a0=frameR (fun i=>a0.tmps.getD i undef)) (h00:a0.tmps.getD 0 undef=v) (h03:a0.tmps.getD 3 undef = .int .i64 src) (hg:Grew w W) (hv:NodesAt w v l)
  (hbad:(src≠1∨¬∀n∈l,Gr.above l n.id n.id 9=false)→∀a' w',Ret11 w 10 a' w'→Q .ret a' w')
  (hnext:src=1→(∀n∈l,Gr.above l n.id n.id 9=false)→∀a' w',Ret11 w 0 a' w'→Q .ret a' w') :
  Code.wp Tryz.prog (tail11 27) Q a0 W:=by
 obtain⟨u,hu⟩:∃u:Nat→Value,u=fun i=>a0.tmps.getD i undef:=⟨_,rfl⟩
 rw[←hu] at hfr;have u0:u 0=_:=(congrFun hu 0).trans h00;have u3:u 3=_:=(congrFun hu 3).trans h03;clear hu h00 h03;subst hfr;obtain⟨a,cap,rfl,hm,-⟩:=hv.openC
 conv=>arg 2;whnf
 unfold frameR;rw[u0,u3];have HG:=hY hg;have HBAD:=hY hbad;have HNX:=hY hnext;have HV:=hY (hv.grew hg);clear hg hbad hnext hv u0 u3;by_cases k1:src=1
 ·subst k1;go_wp2
  go_loopg [9] l.length (fun gg s9 wr=>∃g:Nat,g≤l.length∧l.length-g≤gg∧s9 = .int .i64 g∧Hid (Grew W wr)∧Hid (∀i (hi:i<l.length),i<g→Gr.above l l[i].id l[i].id 9=false))
  case atStart=>exact⟨0,by omega,by omega,rfl,hY gw,hY fun i _ h=>by omega⟩
  case round =>
   obtain⟨g,hg8,hgg,rfl,HGR,HNO⟩:=hrel;by_cases hlt:g<l.length
   ·obtain⟨av,cv,e,-,hx⟩:=(HV.o.grew HGR.o).openC;cases e;obtain⟨b,off,c,rfl,hb,hn,c0,-⟩:=hx g hlt;have eid:=hn.id;have HAB:=hY fun n=>refAbove08_any _ l (wr.drewN n) ((HV.o.grew HGR.o).grew ((Grew.refl wr).drewN n)) 9 (by omega) l[g].id l[g].id
    have HBK:=hY fun(h:Gr.above l l[g].id l[g].id 9=true)=>HBAD.o (Or.inr fun q=>by rw[q _ (List.getElem_mem hlt)] at h;cases h)
    obtain⟨x,hx2⟩:∃x,x=c.id:=⟨_,rfl⟩;have HX:=hY (eid.trans hx2.symm);rw[←hx2] at c0;rw[eid,←hx2] at HAB HBK;clear hx hn eid hx2;cases hq:Gr.above l x x 9
    ·have HQ:=hY hq;clear hq
     go_upto_region 32 with fail
     go_quiet (first|(go_at_call 122;refine Calls.quiet_of_same ((HAB.o _).mono fun e w' h=>⟨h.1.trans (by rw[HQ.o]),h.2⟩)))
     go_wp2
     go_roundg (l.length-(g+1))
     case measure=>omega
     case rel=>exact⟨g+1,by omega,by omega,by go_num,hY (HGR.o.trans gw),hY fun i hi h=>by
      rcases Nat.lt_or_ge i g with h1|h1
      ·exact HNO.o i hi h1
      ·obtain rfl:i=g:=by omega
       rw[HX.o]
       exact HQ.o⟩
    ·have HQ:=hY hq;clear hq
     go_upto_region 32 with fail
     go_quiet (first|(go_at_call 122;refine Calls.quiet_of_same ((HAB.o _).mono fun e w' h=>⟨h.1.trans (by rw[HQ.o]),h.2⟩)))
     go_wp2;exact HBK.o HQ.o _ _ ⟨rfl,rfl,HG.o.trans (HGR.o.trans gw)⟩
   ·obtain rfl:g=l.length:=by omega
    have hok:∀n∈l,Gr.above l n.id n.id 9=false:=fun n hn=>by
     obtain⟨i,hi,rfl⟩:=List.mem_iff_getElem.1 hn;exact HNO.o i hi hi
    have HOK:=hY hok;clear hok;go_wp2;exact HNX.o (by simp) HOK.o _ _ ⟨rfl,rfl,HG.o.trans HGR.o⟩
 ·have k1':(src != 1)=true:=by rw[bne_iff_ne];exact k1
  have HK:=hY k1;clear k1;go_wp2;exact HBAD.o (Or.inl HK.o) _ _ ⟨rfl,rfl,HG.o.trans gw⟩
theorem okR_iff{l:List Gr.Nd}{k:Nat}{y:Gr.Nd}: Gr.OkR l k y↔OkHead l k y∧OkRoute y∧OkFroms y∧OkProg y∧OkFr l y:=by
 constructor
 ·intro h;refine⟨⟨h.id0,h.id7,(findI_some h.fst).1,h.kd0,h.kd2,h.pr1,h.pr3,h.fr3,h.src⟩,h.rt,⟨h.f0,h.f1,h.f2⟩,⟨h.p1,h.p0⟩,h.fr⟩
 ·rintro⟨⟨h1,h2,h3,h4,h5,h6,h7,h8,h9⟩,h10,⟨h11,h12,h13⟩,⟨h14,h15⟩,h16⟩;refine⟨h1,h2,?_,h4,h5,h6,h7,h8,h9,h10,h11,h12,h13,h14,h15,h16⟩
  cases hf:Gr.find l y.id with
  | none=>rw[findI_none hf] at h3;omega
  |some j =>
   rw[(findI_some hf).1] at h3;have:j=k:=by omega
   rw[this]
theorem count_next{l:List Gr.Nd}{k:Nat}{y:Gr.Nd}(hk:l[k]? = some y): (((l.take (k+1)).countP (fun n=>n.kind==0):Nat):Int)=((l.take k).countP (fun n=>n.kind==0):Nat)+if y.kind=0 then 1 else 0:=by
 rw[List.take_add_one,hk];simp only[Option.toList_some,List.countP_append,List.countP_singleton];by_cases h:y.kind=0
 ·rw[if_pos (by rw[h];rfl),if_pos h];omega
 ·rw[if_neg (by simpa using h),if_neg h];omega
theorem ret_end{w W:World}{x:Int}{a:Act}{l:List Gr.Nd}(h:Ret11 w x a W)(e:x=checkR l): bodyPost Tryz.prog Tryz.f61 (Gives (.int .i64 (checkR l)) w) .ret a W:=by
 obtain⟨t,d⟩:=a;obtain⟨h1,h2,h3⟩:=h;simp only at h1 h2;subst h2;refine bodyPost_ret (v:=.int .i64 x) ?_ rfl ⟨by rw[e],h3⟩;simp[results,Tryz.results61,go_sem];rw[←Array.getD_eq_getD_getElem?,h1]
theorem refCheck08_any(v:Value)(l:List Gr.Nd)(w:World)(hv:NodesAt w v l): Calls Tryz.prog 61 #[v] w (Gives (.int .i64 (checkR l)) w):=by
 have HV:=hY hv;obtain⟨a,cap,rfl,hm,-⟩:=hv.openC;clear hv;by_cases h8:8<l.length
 ·have h8':(8:Int)<(l.length:Int):=by omega
  have hc:=checkR_long h8;have HC:=hY hc;clear hc h8;go_enter Tryz.func61,Tryz.ntmps61;go_wp2;go_ret;exact⟨by rw[HC.o];rfl,gw⟩
 ·have h8':¬(8:Int)<(l.length:Int):=by omega
  have H8:=hY h8;clear h8;go_enter Tryz.func61,Tryz.ntmps61;go_wp2;refine wp_loop_ghost_k (fun gg a' wr=>∃k:Nat,k≤l.length∧l.length-k≤gg∧Pre11 w (.slice a l.length cap) k (((l.take k).countP (fun n=>n.kind==0):Nat):Int) a' wr∧∀j n,l[j]? = some n→j<k→Gr.OkR l j n) l.length ?_ ?_
  ·exact⟨0,by omega,by omega,⟨rfl,rfl,rfl,rfl,gw⟩,fun j n _ h=>by omega⟩
  ·rintro gg a1 wr ⟨k,hk8,hgg,⟨hfr,h00,h03,h04,hg⟩,hno⟩ J K hJ hK;have HK:Hid (∀a' w',(∃n',n'<gg∧∃k:Nat,k≤l.length∧l.length-k≤n'∧Pre11 w (.slice a l.length cap) k (((l.take k).countP (fun n=>n.kind==0):Nat):Int) a' w'∧∀j n,l[j]? = some n→j<k→Gr.OkR l j n)→K a' w'):=hY fun a' w' ⟨n',h1,h2⟩=>hK _ _ (Handed.intro n' h1 (hJ _ _ _ h2))
   have HGR:=hY hg;have HNO:=hY hno;obtain⟨u,hu⟩:∃u:Nat→Value,u=fun i=>a1.tmps.getD i undef:=⟨_,rfl⟩
   rw[←hu] at hfr;have u0:u 0=_:=(congrFun hu 0).trans h00;have u3:u 3=_:=(congrFun hu 3).trans h03;have u4:u 4=_:=(congrFun hu 4).trans h04;clear hu h00 h03 h04 hno hg hJ hK;subst hfr;unfold frameR;rw[u0,u3,u4];clear u0 u3 u4;by_cases hlt:k<l.length
   ·obtain⟨av,cv,e,-,hx⟩:=(HV.o.grew HGR.o).openC;cases e;obtain⟨b,off,c,rfl,hb,hn,c0,c1,c2,c3,c4,c5,c6,c7,c8,c9,c10,c11,c12⟩:=hx k hlt;have HX:=hY (And.intro hn (And.intro c0 (And.intro c1 (And.intro c2 (And.intro c3 (And.intro c4 (And.intro c5 (And.intro c6 (And.intro c7 (And.intro c8 (And.intro c9 (And.intro c10 (And.intro c11 c12)))))))))))));clear hx hn c0 c1 c2 c3 c4 c5 c6 c7 c8 c9 c10 c11 c12;have hget:l[k]? = some l[k]:=List.getElem?_eq_getElem hlt;have HGET:=hY hget;have hcnt:((l.take k).countP (fun n=>n.kind==0))≤8:=Nat.le_trans List.countP_le_length (by rw[List.length_take];omega);have hbad:¬Gr.OkR l k l[k]→(10:Int)=checkR l:=fun h=>(checkR_bad (by have:=H8.o;omega) fun r=>h (r.ok k _ HGET.o)).symm
    have HBAD:=hY hbad;clear hget hbad;generalize hy:l[k]=y at *;have HY:=hY hy;clear hy
    go_upto_if 16 with fail
    iterate 6 go_step
    obtain⟨hn,c0,c1,c2,c3,c4,c5,c6,c7,c8,c9,c10,c11,c12⟩:=HX.o;refine chk_p1 l wr wr b off cap k (((l.take k).countP (fun n=>n.kind==0):Nat):Int) c y _ _ ?_ (HV.o.grew HGR.o) hlt hm hn hb c0 c1 c2 c3 c4 c5 c6 c7 c8 c9 c10 c11 c12 ?_ ?_
    ·exact⟨rfl,rfl,rfl,rfl,Grew.refl wr⟩
    ·intro h a' w' hr;exact ret_end ⟨hr.t2,hr.d,HGR.o.trans hr.g⟩ (HBAD.o fun q=>h (okR_iff.1 q).1)
    ·intro o1 a1 W1 h1;have hnW:=hn.grew h1.g;refine chk_p2 l wr W1 _ k _ _ c y _ _ h1 hnW ?_ ?_
     ·intro h a' w' hr;exact ret_end ⟨hr.t2,hr.d,HGR.o.trans hr.g⟩ (HBAD.o fun q=>h (okR_iff.1 q).2.1)
     ·intro o2 a2 W2 g2 h2;refine chk_p3 l wr W2 _ k _ _ c y _ _ h2 (hnW.grew g2) ⟨o1.2.2.2.1,o1.2.2.2.2.1⟩ ⟨by omega,by omega⟩ ?_ ?_
      ·intro h a' w' hr;exact ret_end ⟨hr.t2,hr.d,HGR.o.trans hr.g⟩ (HBAD.o fun q=>h (okR_iff.1 q).2.2.1)
      ·intro o3 a3 W3 g3 h3;refine chk_p4 l wr W3 _ k _ _ c y _ _ h3 ((hnW.grew g2).grew g3) ?_ ?_
       ·intro h a' w' hr;exact ret_end ⟨hr.t2,hr.d,HGR.o.trans hr.g⟩ (HBAD.o fun q=>h (okR_iff.1 q).2.2.2.1)
       ·intro o4 a4 W4 g4 h4;refine chk_p5 l wr W4 b off cap k _ _ c y _ _ h4 (((hnW.grew g2).grew g3).grew g4) (HV.o.grew HGR.o) (by omega) o1.2.2.2.2.2.2.2.1 ?_ ?_
        ·intro h a' w' hr;exact ret_end ⟨hr.t2,hr.d,HGR.o.trans hr.g⟩ (HBAD.o fun q=>h (okR_iff.1 q).2.2.2.2)
        ·intro o5 a5 W5 g5 h5;have hok:Gr.OkR l k y:=okR_iff.2 ⟨o1,o2,o3,o4,o5⟩;have HOK:=hY hok;have hcn:=count_next HGET.o;have HCN:=hY hcn;clear hok hcn;obtain⟨hfr,h00,h03,h04,h05,hg,hbx⟩:=h5;obtain⟨u,hu⟩:∃u:Nat→Value,u=fun i=>a5.tmps.getD i undef:=⟨_,rfl⟩
         rw[←hu] at hfr;have u0:u 0=_:=(congrFun hu 0).trans h00;have u3:u 3=_:=(congrFun hu 3).trans h03;have u4:u 4=_:=(congrFun hu 4).trans h04;clear hu h00 h03 h04 h05;subst hfr;obtain⟨cc,hcc⟩:∃cc,cc=(((l.take k).countP (fun n=>n.kind==0):Nat):Int)+if y.kind=0 then 1 else 0:=⟨_,rfl⟩
         rw[←hcc] at u3 HCN;clear hcc;unfold frameR;rw[u0,u3,u4];have HG5:=hY hg;clear hg hbx u0 u3 u4 o1 o2 o3 o4 o5 h1 h2 h3 h4 g2 g3 g4 g5 hnW hn c0 c1 c2 c3 c4 c5 c6 c7 c8 c9 c10 c11 c12;go_wp2;refine HK.o _ _ ⟨l.length-(k+1),by omega,k+1,by omega,by omega,⟨rfl,rfl,?_,?_,HGR.o.trans (HG5.o.trans gw)⟩,?_⟩
         ·rw[HCN.o];rfl
         ·exact congrArg (Value.int .i64) (by omega:(k:Int)+1=((k+1:Nat):Int))
         ·intro j n hj h;rcases Nat.lt_or_ge j k with h1|h1
          ·exact HNO.o j n hj h1
          ·obtain rfl:j=k:=by omega
           have:=HGET.o.symm.trans hj;cases this;exact HOK.o
   ·obtain rfl:k=l.length:=by omega
    have hcnt:(((l.take l.length).countP (fun n=>n.kind==0):Nat):Int)=(l.countP (fun n=>n.kind==0):Nat):=by rw[List.take_length]
    have HCNT:=hY hcnt;clear hcnt
    go_upto_if 16 with fail
    iterate 4 go_step
    refine chk_p6 l _ w wr ((l.countP (fun n=>n.kind==0):Nat):Int) _ _ ?_ ?_ ?_ HGR.o HV.o ?_ ?_
    ·rfl
    ·rfl
    ·first|rfl|exact congrArg (Value.int .i64) HCNT.o
    ·intro h a' w' hr;refine ret_end hr (checkR_bad (by have:=H8.o;omega) fun q=>?_).symm;rcases h with h|h
     ·exact h (by have:=q.one;omega)
     ·exact h q.ac
    ·intro h1 h2 a' w' hr;refine ret_end hr (checkR_ok (by have:=H8.o;omega) ⟨by have:=H8.o;omega,fun i n hi=>HNO.o i n hi (List.getElem?_eq_some_iff.1 hi).1,by omega,h2⟩).symm
theorem fits_nil:fitsP []:=by unfold fitsP;rfl
theorem nodes_route{w:World}{v:Value}{l:List Gr.Nd}(h:NodesAt w v l): ∀n∈l,n.route.length=8:=by
 obtain⟨lc,-,h2,h3⟩:=h;intro n hn;obtain⟨i,hi,rfl⟩:=List.mem_iff_getElem.1 hn;rw[(h3 i lc[i] l[i] (List.getElem?_eq_getElem (by omega)) (List.getElem?_eq_getElem hi)).route];rfl
theorem right_okB{l:List Gr.Nd}(h:Gr.RightR l)(h8:∀n∈l,n.route.length=8): ∀n∈l,Gr.OkB fitsP 1 n:=h.okB fits_nil (fun p hp=>safe_fits hp) h8
end Go.Proofs.YtipgfjihdglocaaGreat
