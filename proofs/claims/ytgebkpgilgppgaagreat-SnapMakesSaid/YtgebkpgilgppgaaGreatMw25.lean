import Derived.Test.YtgebkpgilgppgaaGreatMw18
import Derived.Test.YtgebkpgilgppgaaGreatMw19
import Derived.Test.YtgebkpgilgppgaaGreatMw9
import Derived.Test.YtgebkpgilgppgaaGreatMw17
set_option linter.unusedSimpArgs false
set_option linter.unusedVariables false
set_option maxRecDepth 100000
set_option maxHeartbeats 64000000
namespace Go.Proofs.YtgebkpgilgppgaaGreat
open Go.RowKit Ga
theorem X7(id kd par r0 r1 r2 r3 r4 r5 r6 r7:Int)(af ap:Option Addr)(nf cf np cp:Nat)(reset:Bool)(s:Gr.Stp)(w:World)(hn:Ai w ⟨5,⟨id,kd,af,nf,cf,ap,np,cp,par,r0,r1,r2,r3,r4,r5,r6,r7⟩,reset⟩ s)(hs:s.nd.frm.length≤1000∧s.nd.prog.length≤1000): Calls Tryz.prog 40 #[.agg #[.int .i64 5,.int .i64 id,.int .i64 kd,.slice af nf cf,.slice ap np cp,.int .i64 par,.int .i64 r0,.int .i64 r1,.int .i64 r2,.int .i64 r3,.int .i64 r4,.int .i64 r5,.int .i64 r6,.int .i64 r7,.bool reset]] w (Cr (Gr.cleanS s) w):=by
 have hcl:=hn.clean;have HCL:=hY hcl;have HN:=hY hn;have H1:=hY fun W (g:AA w W)=>CZ _ s.nd.frm W (HN.o.nd.f.grew g) hs.1
 have H2:=hY fun W (g:AA w W)=>Cs _ s.nd.prog W (HN.o.nd.p.grew g) hs.2
 have HND:=hY hn.nd;have HS:=hY hs;have HK:=hY hn.kind;clear hn hcl hs;go_enter Tryz.func40,Tryz.ntmps40
 go_upto_region 14 with fail
 refine wp_region_noPanic ?_
 go_region_law (first
  | (go_simp;go_at_call 81;refine(H1.o _ gw).mono ?_;rintro e w1 ⟨v1,rfl,ho1,R3,n3,rfl⟩;obtain⟨a1,c1,rfl⟩:=(ho1.rows Ar).len;(have HO1:=hY ho1);clear ho1))
 all_goals
  refine NoPanic.normal ?_;go_wp2;refine bodyPost_ret (D6 rfl (AC ((AA.refl _).more _ _) (Ag (Ag (AO (w.alloc _) _ _ (by simp[World.size_alloc])) _) _))) rfl ?_;refine SH HN.o (OwnAt.low (OwnAt.same HO1.o fun b hb=>Bc (by simp[World.size_alloc]) _ _ _ (by have:=HO1.o.lt b hb;simp[World.size_alloc] at this ⊢;omega)) (by simp[World.size_alloc];omega)) gw
open Classical in
noncomputable def ER(n m:Gr.Nd): Bool:=decide (n=m)
open Classical in
theorem DV{n m:Gr.Nd}(h:n≠m): ER n m=false:=by unfold ER;exact decide_eq_false h
open Classical in
theorem LP{n m:Gr.Nd}(h:n=m): ER n m=true:=by unfold ER;exact decide_eq_true h
theorem Sr{n m:Gr.Nd}{p:Prop}[Decidable p](h:n=m↔p): ER n m=decide p:=by
 by_cases hp:p
 ·rw[LP (h.2 hp),decide_eq_true hp]
 ·rw[DV (fun q=>hp (h.1 q)),decide_eq_false hp]
theorem Oo(c d:BM)(n m:Gr.Nd)(w:World)(hn:A9 w c n)(hm:A9 w d m): Calls Tryz.prog 47 #[.agg #[.int .i64 c.id,.int .i64 c.kind,.slice c.af c.nf c.cf,.slice c.ap c.np c.cp,.int .i64 c.par,.int .i64 c.r0,.int .i64 c.r1,.int .i64 c.r2,.int .i64 c.r3,.int .i64 c.r4,.int .i64 c.r5,.int .i64 c.r6,.int .i64 c.r7],.agg #[.int .i64 d.id,.int .i64 d.kind,.slice d.af d.nf d.cf,.slice d.ap d.np d.cp,.int .i64 d.par,.int .i64 d.r0,.int .i64 d.r1,.int .i64 d.r2,.int .i64 d.r3,.int .i64 d.r4,.int .i64 d.r5,.int .i64 d.r6,.int .i64 d.r7]] w (Ac (.bool (ER n m)) w):=by
 have HF:=hY hn.f;have HF2:=hY hm.f;have HS:=hY fun W (g:AA w W)=>SK _ _ n.prog m.prog W (hn.p.grew g) (hm.p.grew g)
 obtain⟨id,kind,af,cf,ap,cp,par,r0,r1,r2,r3,r4,r5,r6,r7,rfl⟩:=hn.lit;obtain⟨id2,kind2,af2,cf2,ap2,cp2,par2,s0,s1,s2,s3,s4,s5,s6,s7,rfl⟩:=hm.lit;have e1:=hn.id;have e2:=hn.kind;have e3:=hn.par;have e4:=hn.route;have g1:=hm.id;have g2:=hm.kind;have g3:=hm.par;have g4:=hm.route;simp only at e1 e2 e3 e4 g1 g2 g3 g4 HF HF2 HS;have E1:=hY e1;have E2:=hY e2;have E3:=hY e3;have E4:=hY e4;have G1:=hY g1;have G2:=hY g2;have G3:=hY g3;have G4:=hY g4;obtain⟨fn,hfn⟩:∃fn,fn=n.frm:=⟨_,rfl⟩;obtain⟨fm,hfm⟩:∃fm,fm=m.frm:=⟨_,rfl⟩;have HFN:=hY hfn;have HFM:=hY hfm;rw[←hfn] at HF;rw[←hfm] at HF2;rw[←hfn,←hfm];clear e1 e2 e3 e4 g1 g2 g3 g4 hn hm hfn hfm;have H8:=hY (eq8 r0 r1 r2 r3 r4 r5 r6 r7 s0 s1 s2 s3 s4 s5 s6 s7);show Calls Tryz.prog 47 #[.agg #[.int .i64 id,.int .i64 kind,.slice af fn.length cf,.slice ap n.prog.length cp,.int .i64 par,.int .i64 r0,.int .i64 r1,.int .i64 r2,.int .i64 r3,.int .i64 r4,.int .i64 r5,.int .i64 r6,.int .i64 r7],.agg #[.int .i64 id2,.int .i64 kind2,.slice af2 fm.length cf2,.slice ap2 m.prog.length cp2,.int .i64 par2,.int .i64 s0,.int .i64 s1,.int .i64 s2,.int .i64 s3,.int .i64 s4,.int .i64 s5,.int .i64 s6,.int .i64 s7]] w _;by_cases hlen:fn.length=fm.length
 ·have hne:((fn.length:Int) != (fm.length:Int))=false:=by simp;omega
  have HLEN:=hY hlen;clear hlen;go_enter Tryz.func47,Tryz.ntmps47;go_wp2
  go_loopg [5] fn.length (fun gg z5 wr=>∃g:Nat,g≤fn.length∧fn.length-g≤gg∧z5 = .int .i64 g∧Hid (AA w wr)∧Hid (wr.heap[w.heap.size]? = some (.cells #[.int .i64 id,.int .i64 kind,.slice af fn.length cf,.slice ap n.prog.length cp,.int .i64 par,.int .i64 r0,.int .i64 r1,.int .i64 r2,.int .i64 r3,.int .i64 r4,.int .i64 r5,.int .i64 r6,.int .i64 r7] 64))∧Hid (wr.heap[w.heap.size+1]? = some (.cells #[.int .i64 id2,.int .i64 kind2,.slice af2 fm.length cf2,.slice ap2 m.prog.length cp2,.int .i64 par2,.int .i64 s0,.int .i64 s1,.int .i64 s2,.int .i64 s3,.int .i64 s4,.int .i64 s5,.int .i64 s6,.int .i64 s7] 64))∧Hid (∀j (h1:j<fn.length) (h2:j<fm.length),j<g→fn[j]=fm[j]))
  case atStart=>exact⟨0,by omega,by omega,rfl,hY gw,hY (heap_alloc_old (AO w _ _ rfl) _),hY (AO _ _ _ (by rw[World.size_alloc])),hY fun j _ _ h=>by omega⟩
  case round =>
   obtain⟨g,hg8,hgg,rfl,HGR,HBX,HBY,HNO⟩:=hrel;have c0:=cell_of (o:=0) HBX.o;have d0:=cell_of (o:=0) HBY.o;have c1:=cell_of (o:=1) HBX.o;have d1:=cell_of (o:=1) HBY.o;have c2:=cell_of (o:=2) HBX.o;have d2:=cell_of (o:=2) HBY.o;have c3:=cell_of (o:=3) HBX.o;have d3:=cell_of (o:=3) HBY.o;have c4:=cell_of (o:=4) HBX.o;have d4:=cell_of (o:=4) HBY.o;have c5:=cell_of (o:=5) HBX.o;have d5:=cell_of (o:=5) HBY.o;have c6:=cell_of (o:=6) HBX.o;have d6:=cell_of (o:=6) HBY.o;have c7:=cell_of (o:=7) HBX.o;have d7:=cell_of (o:=7) HBY.o;have c8:=cell_of (o:=8) HBX.o;have d8:=cell_of (o:=8) HBY.o;have c9:=cell_of (o:=9) HBX.o;have d9:=cell_of (o:=9) HBY.o;have c10:=cell_of (o:=10) HBX.o;have d10:=cell_of (o:=10) HBY.o;have c11:=cell_of (o:=11) HBX.o;have d11:=cell_of (o:=11) HBY.o;have c12:=cell_of (o:=12) HBX.o;have d12:=cell_of (o:=12) HBY.o;have px:=Ad.mk (AB HBX.o);have py:=Ad.mk (AB HBY.o);simp at c0 d0 c1 d1 c2 d2 c3 d3 c4 d4 c5 d5 c6 d6 c7 d7 c8 d8 c9 d9 c10 d10 c11 d11 c12 d12;by_cases hlt:g<fn.length
   ·obtain⟨af',cf',e,hfb,hx⟩:=BJ (HF.o.grew HGR.o);cases e;obtain⟨bf,offf,rfl,hpf,cx⟩:=hx g hlt;obtain⟨af3,cf3,e,-,hy⟩:=BJ (HF2.o.grew HGR.o);cases e;have hlt2:g<fm.length:=by have:=HLEN.o;omega
    obtain⟨bg,offg,rfl,hpg,cy⟩:=hy g hlt2;have hmeas:fn.length-(g+1)<fn.length-g:=by omega
    have hg1:g+1≤fn.length:=hlt;have HMEAS:=hY (And.intro hmeas hg1);clear hmeas hg1 hx hy c0 d0 c1 d1 c3 d3 c4 d4 c5 d5 c6 d6 c7 d7 c8 d8 c9 d9 c10 d10 c11 d11 c12 d12;by_cases hxy:fn[g]=fm[g]
    ·have HXYZ:=hY hxy;rw[←hxy] at cy;clear hxy;generalize hgx:fn[g]=x at *;have HGX:=hY hgx;clear hgx
     go_wp2_with fail
     go_quiet (fail)
     go_wp2
     go_roundg (fn.length-(g+1))
     case measure=>(have:=HMEAS.o;omega)
     case rel=>exact⟨g+1,HMEAS.o.2,Nat.le_refl _,by go_num,hY (HGR.o.trans gw),hY (AC gw HBX.o),hY (AC gw HBY.o),hY fun j h1 h2 h=>by
      rcases Nat.lt_or_ge j g with h3|h3
      ·exact HNO.o j h1 h2 h3
      ·obtain rfl:j=g:=by omega
       rw[HGX.o]
       exact HXYZ.o⟩
    ·have hno:ER n m=false:=DV fun h=>hxy (by
      have:=HFN.o.trans ((congrArg Gr.Nd.frm h).trans HFM.o.symm);subst this
      rfl)
     have HNO2:=hY hno;have hxb:(fn[g] != fm[g])=true:=by rw[bne_iff_ne];exact hxy
     clear hno hxy;generalize fn[g]=x at *;generalize fm[g]=y at *
     go_wp2_with fail
     go_quiet (fail)
     go_wp2;go_ret;exact⟨by rw[HNO2.o];rfl,HGR.o.trans gw⟩
   ·obtain rfl:g=fn.length:=by omega
    have hff:fn=fm:=List.ext_getElem HLEN.o fun j h1 h2=>HNO.o j h1 h2 h1
    have HFF:=hY (HFN.o.symm.trans (hff.trans HFM.o));clear hff;by_cases i0:id=id2
    ·by_cases k0:kind=kind2
     ·by_cases p0:par=par2
      ·by_cases r0e:([r0,r1,r2,r3,r4,r5,r6,r7]:List Int)=[s0,s1,s2,s3,s4,s5,s6,s7]
       ·have hR:=hY r0e;have h8:=fun W=>(H8.o W).trans (by rw[decide_eq_true r0e])
        have hdec:ER n m=decide (n.prog=m.prog):=by
         refine Sr ⟨fun h=>by rw[h],fun h=>?_⟩;obtain⟨a1,a2,a3,a4,a5,a6⟩:=n;obtain⟨b1,b2,b3,b4,b5,b6⟩:=m;have q1:=E1.o;have q2:=G1.out;have q3:=E2.o;have q4:=G2.out;have q5:=E3.o;have q6:=G3.out;have q7:=E4.o;have q8:=G4.out;have q9:=HFF.o;simp only at q1 q2 q3 q4 q5 q6 q7 q8 q9 h;rw[q1,q2,q3,q4,q5,q6,q7,q8,q9,h,i0,k0,p0,r0e]
        have HDEC:=hY hdec;subst i0 k0 p0;clear hdec r0e;generalize decide (n.prog=m.prog)=q at *
        go_wp2_with (go_at_call 89;refine(HS.o _ (HGR.o.trans gw)).mono ?_;rintro e w2 ⟨rfl,R5,n5,rfl⟩)
        go_ret;exact⟨by rw[HDEC.o];rfl,HGR.o.trans gw⟩
       ·have h8:=fun W=>(H8.o W).trans (by rw[decide_eq_false r0e])
        subst i0 k0 p0;have hno:ER n m=false:=DV fun h=>r0e (E4.o.symm.trans ((congrArg Gr.Nd.route h).trans G4.out))
        have HNO2:=hY hno;clear hno;clear r0e;go_wp2;go_ret;exact⟨by rw[HNO2.o];rfl,HGR.o⟩
      ·subst i0 k0;have p0b:(par==par2)=false:=by simpa using p0
       have hno:ER n m=false:=DV fun h=>p0 (E3.o.symm.trans ((congrArg Gr.Nd.par h).trans G3.out))
       have HNO2:=hY hno;clear hno;clear p0;go_wp2;go_ret;exact⟨by rw[HNO2.o];rfl,HGR.o⟩
     ·subst i0;have k0b:(kind==kind2)=false:=by simpa using k0
      have hno:ER n m=false:=DV fun h=>k0 (E2.o.symm.trans ((congrArg Gr.Nd.kind h).trans G2.out))
      have HNO2:=hY hno;clear hno;clear k0;go_wp2;go_ret;exact⟨by rw[HNO2.o];rfl,HGR.o⟩
    ·have i0b:(id==id2)=false:=by simpa using i0
     have hno:ER n m=false:=DV fun h=>i0 (E1.o.symm.trans ((congrArg Gr.Nd.id h).trans G1.out))
     have HNO2:=hY hno;clear hno;clear i0;go_wp2;go_ret;exact⟨by rw[HNO2.o];rfl,HGR.o⟩
 ·have hne:((fn.length:Int) != (fm.length:Int))=true:=by rw[bne_iff_ne];omega
  have hno:ER n m=false:=DV fun h=>hlen (by
   have:=HFN.o.trans ((congrArg Gr.Nd.frm h).trans HFM.o.symm)
   rw[this])
  rw[hno];clear hno hlen;go_enter Tryz.func47,Tryz.ntmps47;go_wp2;go_ret;refine⟨rfl,?_⟩;exact gw
theorem Xj(c d:BM)(n m:Gr.Nd)(w:World)(hn:A9 w c n)(hm:A9 w d m): Calls Tryz.prog 85 #[.agg #[.int .i64 c.id,.int .i64 c.kind,.slice c.af c.nf c.cf,.slice c.ap c.np c.cp,.int .i64 c.par,.int .i64 c.r0,.int .i64 c.r1,.int .i64 c.r2,.int .i64 c.r3,.int .i64 c.r4,.int .i64 c.r5,.int .i64 c.r6,.int .i64 c.r7],.agg #[.int .i64 d.id,.int .i64 d.kind,.slice d.af d.nf d.cf,.slice d.ap d.np d.cp,.int .i64 d.par,.int .i64 d.r0,.int .i64 d.r1,.int .i64 d.r2,.int .i64 d.r3,.int .i64 d.r4,.int .i64 d.r5,.int .i64 d.r6,.int .i64 d.r7]] w (Ac (.bool (ER n m)) w):=by
 have HF:=hY fun W (g:AA w W)=>Ux _ _ n.frm m.frm W (hn.f.grew g) (hm.f.grew g)
 have HP:=hY fun W (g:AA w W)=>Uy _ _ n.prog m.prog W (hn.p.grew g) (hm.p.grew g)
 obtain⟨id,kind,af,cf,ap,cp,par,r0,r1,r2,r3,r4,r5,r6,r7,rfl⟩:=hn.lit;obtain⟨id2,kind2,af2,cf2,ap2,cp2,par2,s0,s1,s2,s3,s4,s5,s6,s7,rfl⟩:=hm.lit;have e1:=hn.id;have e2:=hn.kind;have e3:=hn.par;have e4:=hn.route;have g1:=hm.id;have g2:=hm.kind;have g3:=hm.par;have g4:=hm.route;simp only at e1 e2 e3 e4 g1 g2 g3 g4 HF HP
 have heq:ER n m=(decide (id=id2)&&(decide (kind=kind2)&&(decide (par=par2)&&(decide ([r0,r1,r2,r3,r4,r5,r6,r7]=[s0,s1,s2,s3,s4,s5,s6,s7])&&(decide (n.frm=m.frm)&&decide (n.prog=m.prog)))))):=by
  obtain⟨i1,k1,f1,p1,q1,t1⟩:=n;obtain⟨i2,k2,f2,p2,q2,t2⟩:=m;simp only at e1 e2 e3 e4 g1 g2 g3 g4;subst e1 e2 e3 e4 g1 g2 g3 g4;rw[←Bool.decide_and,←Bool.decide_and,←Bool.decide_and,←Bool.decide_and,←Bool.decide_and];exact Sr (by simp only[Gr.Nd.mk.injEq];exact⟨fun⟨h1,h2,h3,h4,h5,h6⟩=>⟨h1,h2,h5,h6,h3,h4⟩,fun⟨h1,h2,h3,h4,h5,h6⟩=>⟨h1,h2,h5,h6,h3,h4⟩⟩)
 have HEQ:=hY heq;have h8:=eq8 r0 r1 r2 r3 r4 r5 r6 r7 s0 s1 s2 s3 s4 s5 s6 s7;have hfl:n.frm.length≤9223372036854775807:=by obtain⟨_,_,_,h,_⟩:=BJ hn.f;exact h
 have hpl:n.prog.length≤9223372036854775807:=by obtain⟨_,_,_,h,_⟩:=hn.p.open2;exact h
 clear hn hm e1 e2 e3 e4 g1 g2 g3 g4 heq;generalize hq8:decide ([r0,r1,r2,r3,r4,r5,r6,r7]=[s0,s1,s2,s3,s4,s5,s6,s7])=b8 at *;generalize hqf:decide (n.frm=m.frm)=bf at *;generalize hqp:decide (n.prog=m.prog)=bp at *;clear hq8 hqf hqp;generalize n.frm.length=nf at *;generalize m.frm.length=mf at *;generalize n.prog.length=np at *;generalize m.prog.length=mp at *;generalize ER n m=q at *;by_cases h1:id=id2
 case neg =>
  have hq:q=false:=by rw[HEQ.o,decide_eq_false h1];simp
  have HQ:=hY hq;have h1b:(id==id2)=false:=by simpa using h1
  clear h1 hq;go_enter Tryz.func85,Tryz.ntmps85
  go_wp2_with (first
  | (go_at_call 116;refine(HF.o _ gw).mono ?_;rintro e w1 ⟨rfl,R1,n1,rfl⟩)
  | (go_at_call 117;refine(HP.o _ gw).mono ?_;rintro e w1 ⟨rfl,R2,n2,rfl⟩))
  go_ret;exact⟨by rw[HQ.o];rfl,gw⟩
 subst h1;by_cases h2:kind=kind2
 case neg =>
  have hq:q=false:=by rw[HEQ.o,decide_eq_false h2];simp
  have HQ:=hY hq;have h2b:(kind==kind2)=false:=by simpa using h2
  clear h2 hq;go_enter Tryz.func85,Tryz.ntmps85
  go_wp2_with (first
  | (go_at_call 116;refine(HF.o _ gw).mono ?_;rintro e w1 ⟨rfl,R1,n1,rfl⟩)
  | (go_at_call 117;refine(HP.o _ gw).mono ?_;rintro e w1 ⟨rfl,R2,n2,rfl⟩))
  go_ret;exact⟨by rw[HQ.o];rfl,gw⟩
 subst h2;by_cases h3:par=par2
 case neg =>
  have hq:q=false:=by rw[HEQ.o,decide_eq_false h3];simp
  have HQ:=hY hq;have h3b:(par==par2)=false:=by simpa using h3
  clear h3 hq;go_enter Tryz.func85,Tryz.ntmps85
  go_wp2_with (first
  | (go_at_call 116;refine(HF.o _ gw).mono ?_;rintro e w1 ⟨rfl,R1,n1,rfl⟩)
  | (go_at_call 117;refine(HP.o _ gw).mono ?_;rintro e w1 ⟨rfl,R2,n2,rfl⟩))
  go_ret;exact⟨by rw[HQ.o];rfl,gw⟩
 subst h3;cases b8
 ·have hq:q=false:=by rw[HEQ.o];simp
  have HQ:=hY hq;clear hq;go_enter Tryz.func85,Tryz.ntmps85
  go_wp2_with (first
  | (go_at_call 116;refine(HF.o _ gw).mono ?_;rintro e w1 ⟨rfl,R1,n1,rfl⟩)
  | (go_at_call 117;refine(HP.o _ gw).mono ?_;rintro e w1 ⟨rfl,R2,n2,rfl⟩))
  go_ret;exact⟨by rw[HQ.o];rfl,gw⟩
 cases bf
 ·have hq:q=false:=by rw[HEQ.o];simp
  have HQ:=hY hq;clear hq;go_enter Tryz.func85,Tryz.ntmps85
  go_wp2_with (first
  | (go_at_call 116;refine(HF.o _ gw).mono ?_;rintro e w1 ⟨rfl,R1,n1,rfl⟩)
  | (go_at_call 117;refine(HP.o _ gw).mono ?_;rintro e w1 ⟨rfl,R2,n2,rfl⟩))
  go_ret;exact⟨by rw[HQ.o];rfl,gw⟩
 ·have hq:q=bp:=by rw[HEQ.o];simp
  have HQ:=hY hq;clear hq;go_enter Tryz.func85,Tryz.ntmps85
  go_wp2_with (first
  | (go_at_call 116;refine(HF.o _ gw).mono ?_;rintro e w1 ⟨rfl,R1,n1,rfl⟩)
  | (go_at_call 117;refine(HP.o _ gw).mono ?_;rintro e w1 ⟨rfl,R2,n2,rfl⟩))
  go_ret;exact⟨by rw[HQ.o];rfl,gw⟩
open Classical in
noncomputable def IQ(l m:List Gr.Nd): Bool:=decide (l=m)
open Classical in
theorem M9{l m:List Gr.Nd}(h:l=m): IQ l m=true:=by unfold IQ;exact decide_eq_true h
open Classical in
theorem IR{l m:List Gr.Nd}(h:l≠m): IQ l m=false:=by unfold IQ;exact decide_eq_false h
theorem YB(n m:Gr.Nd): IQ [n] [m]=ER n m:=by
 by_cases h:n=m
 ·rw[LP h,M9 (by rw[h])]
 ·rw[DV h,IR (by simpa using h)]
theorem A19{n m:Gr.Nd}(h:ER n m=false): n≠m:=fun e=>by rw[LP e] at h;cases h
open Classical in
theorem A2A{n m:Gr.Nd}(h:ER n m=true): n=m:=by
 unfold ER at h;exact of_decide_eq_true h
theorem JY(v u:Value)(l m:List Gr.Nd)(w:World)(hv:AV w v l)(hu:AV w u m): Calls Tryz.prog 84 #[v,u,.func (.func 85) #[] #[]] w (Ac (.bool (IQ l m)) w):=by
 have HV:=hY hv;have HU:=hY hu;obtain⟨a,cap,rfl,hm,-⟩:=hv.openC;obtain⟨a2,cap2,rfl,hm2,-⟩:=hu.openC;clear hv hu;by_cases hlen:l.length=m.length
 ·have hD2:((l.length:Int) != (m.length:Int))=false:=by rw[hlen];simp
  have HLEN:=hY hlen;clear hlen;go_enter Tryz.func84,Tryz.ntmps84;go_wp2
  go_loopg [17] l.length (fun gg s17 wr=>∃g:Nat,g≤l.length∧l.length-g≤gg∧s17 = .int .i64 g∧Hid (AA w wr)∧Hid (l.take g=m.take g))
  case atStart=>exact⟨0,by omega,by omega,rfl,hY gw,hY rfl⟩
  case round =>
   obtain⟨g,hg8,hgg,rfl,HGR,HNO⟩:=hrel;by_cases hlt:g<l.length
   ·have hlt2:g<m.length:=by have:=HLEN.o;omega
    obtain⟨av,cv,e,-,hx⟩:=(HV.o.grew HGR.o).openC;cases e;obtain⟨av2,cv2,e,-,hx2⟩:=(HU.o.grew HGR.o).openC;cases e;obtain⟨b,off,c,rfl,hb,hn,c0,c1,c2,c3,c4,c5,c6,c7,c8,c9,c10,c11,c12⟩:=hx g hlt;obtain⟨b2,off2,d,rfl,hb2,hn2,d0,d1,d2,d3,d4,d5,d6,d7,d8,d9,d10,d11,d12⟩:=hx2 g hlt2;have HS:=hY (EC hlt hlt2 HNO.o);have HF:=hY (M6 hlt hlt2);clear hx hx2;generalize l[g]=y at *;generalize m[g]=z at *;have HA:=hY fun W (g:AA wr W)=>Xj c d y z W (hn.grew g) (hn2.grew g)
    obtain⟨cid,kind,af,cf,ap,cp,par,r0,r1,r2,r3,r4,r5,r6,r7,rfl⟩:=hn.lit;obtain⟨cid2,kind2,af2,cf2,ap2,cp2,par2,s0,s1,s2,s3,s4,s5,s6,s7,rfl⟩:=hn2.lit;simp only at c0 c1 c2 c3 c4 c5 c6 c7 c8 c9 c10 c11 c12 d0 d1 d2 d3 d4 d5 d6 d7 d8 d9 d10 d11 d12;clear hn hn2;cases hq:ER y z
    ·have HQ:=hY hq;have HFIN:=hY (IR (HF.o (A19 hq)));clear hq
     go_wp2_with (go_at_call 85;refine(HA.o _ gw).mono ?_;rintro e w1 ⟨rfl,R1,n1,rfl⟩;rw[HQ.o])
     go_ret;exact⟨by rw[HFIN.o];rfl,HGR.o.trans gw⟩
    ·have HQ:=hY hq;have HS2:=hY (HS.o (A2A hq));clear hq
     go_wp2_with (go_at_call 85;refine(HA.o _ gw).mono ?_;rintro e w1 ⟨rfl,R1,n1,rfl⟩;rw[HQ.o])
     go_roundg (l.length-(g+1))
     case measure=>omega
     case rel=>exact⟨g+1,by omega,by omega,by go_num,hY (HGR.o.trans gw),HS2⟩
   ·obtain rfl:g=l.length:=by omega
    have hz:=HNO.o;rw[List.take_length,List.take_of_length_le (by have:=HLEN.o;omega)] at hz;have HFIN:=hY (M9 hz);clear hz;go_wp2;go_ret;exact⟨by rw[HFIN.o];rfl,HGR.o⟩
 ·have hD2:((l.length:Int) != (m.length:Int))=true:=by rw[bne_iff_ne];omega
  have HFIN:=hY (IR (l:=l) (m:=m) fun h=>hlen (by rw[h]));clear hlen;go_enter Tryz.func84,Tryz.ntmps84;go_wp2;go_ret;exact⟨by rw[HFIN.o];rfl,gw⟩
theorem XW(v:Value)(y:Gr.Nd)(w:World)(hv:AV w v [y])(hs:y.frm.length≤1000∧y.prog.length≤1000): Calls Tryz.prog 27 #[v] w (fun e w'=>∃v',e = .returned v'∧AV w' v' [y]∧AA w w'):=by
 refine(EF v [y] w hv (fun n hn=>by rw[List.mem_singleton] at hn;subst hn;exact hs) (by simp)).mono ?_;rintro e w' ⟨v',lc,l',rfl,ho,hi,hp,-,g⟩;obtain rfl:=List.perm_singleton.1 hp;exact⟨v',rfl,hi.at ho,g⟩
theorem Ky(v u:Value)(n m:Gr.Nd)(w:World)(hv:AV w v [n])(hu:AV w u [m])(hn:n.frm.length≤1000∧n.prog.length≤1000)(hm:m.frm.length≤1000∧m.prog.length≤1000): Calls Tryz.prog 42 #[v,u] w (Ac (.bool (ER n m)) w):=by
 have HV:=hY fun W (g:AA w W)=>XW v n W (hv.grew g) hn
 have HU:=hY fun W (g:AA w W)=>XW u m W (hu.grew g) hm
 have hone:=YB n m;have HONE:=hY hone;clear hv hu hone;go_enter Tryz.func42,Tryz.ntmps42
 go_wp2_with (first
  | (go_at_call_of 27 v;refine(HV.o _ gw).mono ?_;rintro e w1 ⟨v1,rfl,hv1,R1,n1,rfl⟩;(have HV1:=hY hv1);clear hv1)
  | (go_at_call_of 27 u;refine(HU.o _ gw).mono ?_;rintro e w1 ⟨v2,rfl,hv2,R2,n2,rfl⟩;(have HV2:=hY hv2);clear hv2)
  | (go_at_call 84;refine(JY _ _ [n] [m] _ (HV1.o.grew gw) (HV2.o.grew gw)).mono ?_;rintro e w1 ⟨rfl,R3,n3,rfl⟩;rw[HONE.o]))
 go_ret;exact⟨rfl,gw⟩
end Go.Proofs.YtgebkpgilgppgaaGreat
