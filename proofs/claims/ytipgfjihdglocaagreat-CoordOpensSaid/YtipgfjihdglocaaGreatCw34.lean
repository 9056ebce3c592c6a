import Derived.Test.YtipgfjihdglocaaGreatCw31
import Derived.Test.YtipgfjihdglocaaGreatCw18
import Derived.Test.YtipgfjihdglocaaGreatCw9
set_option linter.unusedSimpArgs false
set_option linter.unusedVariables false
set_option maxRecDepth 100000
set_option maxHeartbeats 64000000
namespace Go.Proofs.YtipgfjihdglocaaGreat
open Go.RowKit Ga
def framePl(u:Nat→Value): Act:={ tmps:=#[u 0,u 1,u 2,u 3,u 4,u 5,u 6,u 7,u 8,u 9,u 10,u 11,u 12,u 13,u 14,u 15,u 16,u 17,u 18,u 19,u 20,u 21,u 22,u 23,u 24,u 25,u 26,u 27,u 28,u 29,u 30,u 31,u 32,u 33,u 34,u 35,u 36,u 37,u 38,u 39,u 40,u 41,u 42,u 43,u 44,u 45,u 46,u 47,u 48,u 49,u 50,u 51,u 52,u 53,u 54,u 55,u 56,u 57,u 58,u 59,u 60,u 61,u 62,u 63,u 64,u 65,u 66,u 67,u 68,u 69,u 70,u 71,u 72,u 73,u 74,u 75,u 76,u 77,u 78,u 79,u 80,u 81,u 82,u 83,u 84,u 85,u 86,u 87,u 88,u 89,u 90,u 91,u 92,u 93,u 94,u 95,u 96,u 97,u 98,u 99,u 100,u 101,u 102,u 103,u 104,u 105,u 106,u 107,u 108,u 109,u 110,u 111,u 112,u 113,u 114,u 115,u 116,u 117,u 118,u 119,u 120,u 121,u 122,u 123,u 124,u 125,u 126,u 127,u 128,u 129,u 130,u 131,u 132,u 133,u 134,u 135,u 136,u 137,u 138,u 139,u 140,u 141,u 142],defers:=[] }
noncomputable def tail17(n:Nat): Code:=(Tryz.f64.body.bind (from9 n)).getD .skip
structure Pre17 (w:World) (v:Value) (k:Nat) (T:List UInt8) (a:Act) (W:World):Prop where
 fr:a=framePl (fun i=>a.tmps.getD i undef)
 t0:a.tmps.getD 0 undef=v
 t4:a.tmps.getD 4 undef=str T
 t5:a.tmps.getD 5 undef = .int .i64 k
 g:Grew w W
structure At17 (w:World) (v:Value) (k:Nat) (T:List UInt8) (tx ty:Nat) (d:StC) (a:Act) (W:World):Prop where
 fr:a=framePl (fun i=>a.tmps.getD i undef)
 t0:a.tmps.getD 0 undef=v
 t4:a.tmps.getD 4 undef=str T
 t5:a.tmps.getD 5 undef = .int .i64 k
 t6:a.tmps.getD 6 undef = .pointer (some ⟨tx,0,none⟩)
 t7:a.tmps.getD 7 undef = .pointer (some ⟨ty,0,none⟩)
 g:Grew w W
 bx:W.heap[tx]? = some (.cells (encSt d).toArray 69)
 bY:W.heap[ty]? = some (.cells (encNd d.c).toArray 52)
structure Ret17 (w:World) (a:Act) (W:World):Prop where
 t2:a.tmps.getD 2 undef = .string ⟨#[]⟩
 t3:a.tmps.getD 3 undef = .bool false
 d:a.defers=[]
 g:Grew w W
theorem pl_p1(n:Nat)(w W:World)(b off cap k:Nat)(T:List UInt8)(kind:Int)(Q:Exit→Act→World→Prop)(a0:Act)
  (h0:Pre17 w (.slice (some ⟨b,off,none⟩) n cap) k T a0 W) (hk:k<n) (hm:n≤9223372036854775807) (hb:Pre b W)
  (c0:W.cell? ⟨b,off+k*15,none⟩=some (.int .i64 kind))
  (hbad:¬(1≤kind∧kind≤5)→∀a' w',Ret17 w a' w'→Q .ret a' w')
  (hnext:1≤kind∧kind≤5→∀a',Pre17 w (.slice (some ⟨b,off,none⟩) n cap) k T a' W→Code.wp Tryz.prog (tail17 9) Q a' W) :
  Code.wp Tryz.prog (tail17 7) Q a0 W:=by
 obtain⟨hfr,h00,h04,h05,hg⟩:=h0;obtain⟨u,hu⟩:∃u:Nat→Value,u=fun i=>a0.tmps.getD i undef:=⟨_,rfl⟩
 rw[←hu] at hfr;have u0:u 0=_:=(congrFun hu 0).trans h00;have u4:u 4=_:=(congrFun hu 4).trans h04;have u5:u 5=_:=(congrFun hu 5).trans h05;clear hu h00 h04 h05;subst hfr
 conv=>arg 2;whnf
 unfold framePl;rw[u0,u4,u5];clear u0 u4 u5;have HG:=hY hg;have HBAD:=hY hbad;have HNX:=hY hnext;clear hg hbad hnext;by_cases k1:kind<1
 ·go_wp2;exact HBAD.o (by omega) _ _ ⟨rfl,rfl,rfl,HG.o⟩
 by_cases k5:5<kind
 ·go_wp2;exact HBAD.o (by omega) _ _ ⟨rfl,rfl,rfl,HG.o⟩
 go_upto_if 40 with fail
 iterate 4 go_step
 refine HNX.o (by omega) _ ?_;exact⟨rfl,rfl,rfl,rfl,HG.o⟩
def OkP(z:Gr.Stp): Prop:=0≤z.nd.id∧z.nd.id≤7∧0≤z.nd.kind∧z.nd.kind≤2∧z.nd.frm.length≤3∧0≤z.nd.par∧z.nd.par≤3∧Co.fitsI z.nd.prog=true
theorem pl_p2(n:Nat)(w W:World)(b off cap k:Nat)(T:List UInt8)(c:StC)(y z:Gr.Stp)(Q:Exit→Act→World→Prop)(a0:Act)
  (h0:Pre17 w (.slice (some ⟨b,off,none⟩) n cap) k T a0 W) (hk:k<n) (hm:n≤9223372036854775807) (hn:StepIs W c y) (hz:z=Gr.cleanS y) (hkd:1≤c.kind∧c.kind≤5) (hb:Pre b W)
  (c0:W.cell? ⟨b,off+k*15,none⟩=some (.int .i64 c.kind)) (c1:W.cell? ⟨b,off+k*15+1,none⟩=some (.int .i64 c.c.id)) (c2:W.cell? ⟨b,off+k*15+2,none⟩=some (.int .i64 c.c.kind)) (c3:W.cell? ⟨b,off+k*15+3,none⟩=some (.slice c.c.af c.c.nf c.c.cf)) (c4:W.cell? ⟨b,off+k*15+4,none⟩=some (.slice c.c.ap c.c.np c.c.cp)) (c5:W.cell? ⟨b,off+k*15+5,none⟩=some (.int .i64 c.c.par)) (c6:W.cell? ⟨b,off+k*15+6,none⟩=some (.int .i64 c.c.r0)) (c7:W.cell? ⟨b,off+k*15+7,none⟩=some (.int .i64 c.c.r1)) (c8:W.cell? ⟨b,off+k*15+8,none⟩=some (.int .i64 c.c.r2)) (c9:W.cell? ⟨b,off+k*15+9,none⟩=some (.int .i64 c.c.r3)) (c10:W.cell? ⟨b,off+k*15+10,none⟩=some (.int .i64 c.c.r4)) (c11:W.cell? ⟨b,off+k*15+11,none⟩=some (.int .i64 c.c.r5)) (c12:W.cell? ⟨b,off+k*15+12,none⟩=some (.int .i64 c.c.r6)) (c13:W.cell? ⟨b,off+k*15+13,none⟩=some (.int .i64 c.c.r7)) (c14:W.cell? ⟨b,off+k*15+14,none⟩=some (.bool c.reset))
  (hbad:¬OkP z→∀a' w',Ret17 w a' w'→Q .ret a' w')
  (hnext:OkP z→∀a' W' tx ty d,Grew W W'→StepIs W' d z→At17 w (.slice (some ⟨b,off,none⟩) n cap) k T tx ty d a' W'→Code.wp Tryz.prog (tail17 13) Q a' W') :
  Code.wp Tryz.prog (tail17 9) Q a0 W:=by
 obtain⟨hfr,h00,h04,h05,hg⟩:=h0;obtain⟨u,hu⟩:∃u:Nat→Value,u=fun i=>a0.tmps.getD i undef:=⟨_,rfl⟩
 rw[←hu] at hfr;have u0:u 0=_:=(congrFun hu 0).trans h00;have u4:u 4=_:=(congrFun hu 4).trans h04;have u5:u 5=_:=(congrFun hu 5).trans h05;clear hu h00 h04 h05;subst hfr
 conv=>arg 2;whnf
 unfold framePl;rw[u0,u4,u5];clear u0 u4 u5;have HG:=hY hg;have HBAD:=hY hbad;have HNX:=hY hnext;obtain⟨d,hd⟩:∃d,d=cleanC c:=⟨_,rfl⟩;have hcl:=fun W'=>clean13_any c W' hkd
 have hsd:=hn.clean;rw[←hd] at hcl hsd;rw[←hz] at hsd;clear hg hbad hnext hd hz hkd;obtain⟨kind,reset,cid,ckd,caf,ccf,cap2,ccp,cpar,q0,q1,q2,q3,q4,q5,q6,q7,rfl⟩:=hn.lit;simp only at c0 c1 c2 c3 c4 c5 c6 c7 c8 c9 c10 c11 c12 c13 c14 hcl;obtain⟨dk,dr,id,kd,af,cf,ap,cp,par,r0,r1,r2,r3,r4,r5,r6,r7,rfl⟩:=hsd.lit;simp only at hcl;have HCL:=hY hcl;have HSD:=hY hsd;have eid:=hsd.nd.id;have ekd:=hsd.nd.kind;have epar:=hsd.nd.par;simp only at eid ekd epar;have EID:=hY eid;have EKD:=hY ekd;have EPAR:=hY epar;have HFIT:=hY fun W' (g:Grew W W')=>refFits_any _ z.nd.prog W' (hsd.nd.p.grew g)
 simp only at HFIT;generalize efl:z.nd.frm.length=fl at *;have EFL:=hY efl
 have hpm:z.nd.prog.length≤9223372036854775807:=by
  obtain⟨_,_,_,h,_⟩:=hsd.nd.p.open2;omega
 generalize z.nd.prog.length=pl at *;clear hcl hsd hn eid ekd epar efl
 go_upto_region 11 with (go_at_call 65;refine(HCL.o _).mono ?_;rintro e w1 ⟨rfl,R1,n1,rfl⟩)
 by_cases i0:id<0
 ·go_wp2;exact HBAD.o (fun h=>by have:=h.1;rw[EID.o] at this;omega) _ _ ⟨rfl,rfl,rfl,HG.o.trans gw⟩
 by_cases i1:7<id
 ·go_wp2;exact HBAD.o (fun h=>by have:=h.2.1;rw[EID.o] at this;omega) _ _ ⟨rfl,rfl,rfl,HG.o.trans gw⟩
 by_cases i2:kd<0
 ·go_wp2;exact HBAD.o (fun h=>by have:=h.2.2.1;rw[EKD.o] at this;omega) _ _ ⟨rfl,rfl,rfl,HG.o.trans gw⟩
 by_cases i3:2<kd
 ·go_wp2;exact HBAD.o (fun h=>by have:=h.2.2.2.1;rw[EKD.o] at this;omega) _ _ ⟨rfl,rfl,rfl,HG.o.trans gw⟩
 by_cases i4:(3:Int)<(fl:Int)
 ·go_wp2;exact HBAD.o (fun h=>by have:=h.2.2.2.2.1;rw[EFL.o] at this;omega) _ _ ⟨rfl,rfl,rfl,HG.o.trans gw⟩
 by_cases i5:par<0
 ·go_wp2;exact HBAD.o (fun h=>by have:=h.2.2.2.2.2.1;rw[EPAR.o] at this;omega) _ _ ⟨rfl,rfl,rfl,HG.o.trans gw⟩
 by_cases i6:3<par
 ·go_wp2;exact HBAD.o (fun h=>by have:=h.2.2.2.2.2.2.1;rw[EPAR.o] at this;omega) _ _ ⟨rfl,rfl,rfl,HG.o.trans gw⟩
 cases hff:Co.fitsI z.nd.prog
 ·have HFF:=hY hff;clear hff
  go_wp2_with (go_at_call 125;refine(HFIT.o _ gw).mono ?_;rintro e w1 ⟨rfl,R2,n2,rfl⟩;rw[HFF.o])
  exact HBAD.o (fun h=>by have:=h.2.2.2.2.2.2.2;rw[HFF.o] at this;cases this) _ _ ⟨rfl,rfl,rfl,HG.o.trans gw⟩
 ·have HFF:=hY hff;have hok:OkP z:=⟨by rw[EID.o];omega,by rw[EID.o];omega,by rw[EKD.o];omega,by rw[EKD.o];omega,by rw[EFL.o];omega,by rw[EPAR.o];omega,by rw[EPAR.o];omega,hff⟩;have HOK:=hY hok;clear hff hok
  go_upto_if 87 with (go_at_call 125;refine(HFIT.o _ gw).mono ?_;rintro e w1 ⟨rfl,R2,n2,rfl⟩;rw[HFF.o])
  iterate 4 go_step
  refine HNX.o HOK.o _ _ (W.heap.size+R1.size) (W.heap.size+R1.size+1) _ ?_ (HSD.o.grew ?_) ?_
  ·exact gw
  ·exact gw
  ·exact⟨rfl,rfl,rfl,rfl,rfl,rfl,HG.o.trans gw,grew_heap ((Grew.refl _).more _ _) (heap_alloc' (heap_new_at _ _ _ (by simp[World.more_size])) _),grew_heap ((Grew.refl _).more _ _) (heap_new_at _ _ _ (by simp[World.more_size,World.size_alloc]))⟩
def OkPF(z:Gr.Stp): Prop:=∀x∈z.nd.frm,0≤x∧x≤7
def OkPR(z:Gr.Stp): Prop:=∀x∈z.nd.route,0≤x∧x≤2
theorem pl_p3(n:Nat)(w W:World)(v:Value)(k tx ty:Nat)(T:List UInt8)(d:StC)(z:Gr.Stp)(Q:Exit→Act→World→Prop)(a0:Act)
  (h0:At17 w v k T tx ty d a0 W) (hn:StepIs W d z) (hfl:z.nd.frm.length≤3)
  (hbad:¬OkPF z→∀a' w',Ret17 w a' w'→Q .ret a' w')
  (hnext:OkPF z→∀a' W',Grew W W'→At17 w v k T tx ty d a' W'→Code.wp Tryz.prog (tail17 18) Q a' W') :
  Code.wp Tryz.prog (tail17 13) Q a0 W:=by
 obtain⟨hfr,h00,h04,h05,h06,h07,hg,hbx,hby⟩:=h0;obtain⟨u,hu⟩:∃u:Nat→Value,u=fun i=>a0.tmps.getD i undef:=⟨_,rfl⟩
 rw[←hu] at hfr;have u0:u 0=_:=(congrFun hu 0).trans h00;have u4:u 4=_:=(congrFun hu 4).trans h04;have u5:u 5=_:=(congrFun hu 5).trans h05;have u6:u 6=_:=(congrFun hu 6).trans h06;have u7:u 7=_:=(congrFun hu 7).trans h07;clear hu h00 h04 h05 h06 h07;subst hfr
 conv=>arg 2;whnf
 unfold framePl;rw[u0,u4,u5,u6,u7];clear u0 u4 u5 u6 u7;obtain⟨dk,dr,id,kd,af,cf,ap,cp,par,r0,r1,r2,r3,r4,r5,r6,r7,rfl⟩:=hn.lit;have HF:=hY hn.nd.f;have HG:=hY hg;have HBX:=hY hbx;have HBY:=hY hby;have HBAD:=hY hbad;have HNX:=hY hnext;have c2:=cell_of (o:=2) hby;have px:=Pre.mk (heap_lt hby);simp[encNd] at c2;simp only at HF;obtain⟨fl,efl⟩:∃fl,fl=z.nd.frm:=⟨_,rfl⟩;have EFL:=hY efl;rw[←efl] at c2 hfl HF;clear hg hbx hby hbad hnext hn efl;go_wp2
 go_loopg [8] fl.length (fun gg s8 wr=>∃g:Nat,g≤fl.length∧fl.length-g≤gg∧s8 = .int .i64 g∧Hid (Grew W wr)∧Hid (∀j (hj:j<fl.length),j<g→0≤fl[j]∧fl[j]≤7))
 case atStart=>exact⟨0,by omega,by omega,rfl,hY gw,hY fun j _ h=>by omega⟩
 case round =>
  obtain⟨g,hg8,hgg,rfl,HGR,HNO⟩:=hrel;have hby2:=grew_heap HGR.o HBY.o;have d2:=cell_of (o:=2) hby2;have px2:=Pre.mk (heap_lt hby2);simp[encNd] at d2;rw[←EFL.o] at d2;have HBX2:=hY (grew_heap HGR.o HBX.o);have HBY2:=hY hby2;clear hby2 c2;by_cases hlt:g<fl.length
  ·have hrows:IntsAt wr (.slice af fl.length cf) fl:=HF.o.grew HGR.o;obtain⟨af',cf',e,-,hx⟩:=ints_open hrows;cases e;obtain⟨bf,offf,rfl,hpf,cx⟩:=hx g hlt;have hmem:fl[g]∈z.nd.frm:=by rw[←EFL.o];exact List.getElem_mem hlt
   have HMEM:=hY hmem;clear hx hrows hmem;generalize hxx:fl[g]=x at *;have HXX:=hY hxx;clear hxx;by_cases x0:x<0
   ·go_wp2;exact HBAD.o (fun h=>by have:=(h _ HMEM.o).1;omega) _ _ ⟨rfl,rfl,rfl,HG.o.trans (HGR.o.trans gw)⟩
   by_cases x7:7<x
   ·go_wp2;exact HBAD.o (fun h=>by have:=(h _ HMEM.o).2;omega) _ _ ⟨rfl,rfl,rfl,HG.o.trans (HGR.o.trans gw)⟩
   go_wp2
   go_roundg (fl.length-(g+1))
   case measure=>omega
   case rel=>exact⟨g+1,by omega,by omega,by go_num,hY (HGR.o.trans gw),hY fun j hj h=>by
    rcases Nat.lt_or_ge j g with h1|h1
    ·exact HNO.o j hj h1
    ·obtain rfl:j=g:=by omega
     rw[HXX.o]
     exact⟨by omega,by omega⟩⟩
  ·obtain rfl:g=fl.length:=by omega
   have hok:OkPF z:=fun x hx=>by
    rw[←EFL.o] at hx;obtain⟨j,hj,rfl⟩:=List.mem_iff_getElem.1 hx;exact HNO.o j hj hj
   have HOK:=hY hok;clear hok
   go_upto_if 92 with fail
   iterate 4 go_step
   refine HNX.o HOK.o _ _ HGR.o ?_;exact⟨rfl,rfl,rfl,rfl,rfl,rfl,HG.o.trans HGR.o,HBX2.o,HBY2.o⟩
theorem pl_p4(n:Nat)(w W:World)(v:Value)(k tx ty:Nat)(T:List UInt8)(d:StC)(z:Gr.Stp)(Q:Exit→Act→World→Prop)(a0:Act)
  (h0:At17 w v k T tx ty d a0 W) (hn:StepIs W d z)
  (hbad:¬OkPR z→∀a' w',Ret17 w a' w'→Q .ret a' w')
  (hnext:OkPR z→∀a' W',Grew W W'→At17 w v k T tx ty d a' W'→Code.wp Tryz.prog (tail17 23) Q a' W') :
  Code.wp Tryz.prog (tail17 18) Q a0 W:=by
 obtain⟨hfr,h00,h04,h05,h06,h07,hg,hbx,hby⟩:=h0;obtain⟨u,hu⟩:∃u:Nat→Value,u=fun i=>a0.tmps.getD i undef:=⟨_,rfl⟩
 rw[←hu] at hfr;have u0:u 0=_:=(congrFun hu 0).trans h00;have u4:u 4=_:=(congrFun hu 4).trans h04;have u5:u 5=_:=(congrFun hu 5).trans h05;have u6:u 6=_:=(congrFun hu 6).trans h06;have u7:u 7=_:=(congrFun hu 7).trans h07;clear hu h00 h04 h05 h06 h07;subst hfr
 conv=>arg 2;whnf
 unfold framePl;rw[u0,u4,u5,u6,u7];clear u0 u4 u5 u6 u7;have HRT:=hY hn.nd.route;have HG:=hY hg;have HBX:=hY hbx;have HBY:=hY hby;have HBAD:=hY hbad;have HNX:=hY hnext;clear hg hbx hby hbad hnext hn;go_wp2
 go_loopg [9] 8 (fun gg s9 wr=>∃g:Nat,g≤8∧8-g≤gg∧s9 = .int .i64 g∧Hid (Grew W wr)∧Hid (∀j (hj:j<z.nd.route.length),j<g→0≤z.nd.route[j]∧z.nd.route[j]≤2))
 case atStart=>exact⟨0,by omega,by omega,rfl,hY gw,hY fun j _ h=>by omega⟩
 case round =>
  obtain⟨g,hg8,hgg,rfl,HGR,HNO⟩:=hrel;have hby2:=grew_heap HGR.o HBY.o;have px2:=Pre.mk (heap_lt hby2);have HBX2:=hY (grew_heap HGR.o HBX.o);have HBY2:=hY hby2;by_cases hlt:g<8
  ·have dg:=cell_of (o:=5+g) hby2;rw[enc_route d.c g hlt] at dg;have hrl:g<z.nd.route.length:=by rw[HRT.o];exact hlt
   have hre:z.nd.route[g]=([d.c.r0,d.c.r1,d.c.r2,d.c.r3,d.c.r4,d.c.r5,d.c.r6,d.c.r7]:List Int)[g]:=by
    have:=HRT.o;simp only[this]
   have hmem:z.nd.route[g]∈z.nd.route:=List.getElem_mem hrl;have HMEM:=hY hmem;have HRE:=hY hre;clear hre hby2 hmem;generalize ([d.c.r0,d.c.r1,d.c.r2,d.c.r3,d.c.r4,d.c.r5,d.c.r6,d.c.r7]:List Int)[g]=x at *;by_cases x0:x<0
   ·go_wp2;refine HBAD.o (fun h=>?_) _ _ ⟨rfl,rfl,rfl,HG.o.trans (HGR.o.trans gw)⟩;have:=(h _ HMEM.o).1;rw[HRE.o] at this;omega
   by_cases xp:2<x
   ·go_wp2;refine HBAD.o (fun h=>?_) _ _ ⟨rfl,rfl,rfl,HG.o.trans (HGR.o.trans gw)⟩;have:=(h _ HMEM.o).2;rw[HRE.o] at this;omega
   go_wp2
   go_roundg (8-(g+1))
   case measure=>omega
   case rel=>exact⟨g+1,by omega,by omega,by go_num,hY (HGR.o.trans gw),hY fun j hj h=>by
    rcases Nat.lt_or_ge j g with h1|h1
    ·exact HNO.o j hj h1
    ·obtain rfl:j=g:=by omega
     rw[HRE.o]
     exact⟨by omega,by omega⟩⟩
  ·obtain rfl:g=8:=by omega
   have hok:OkPR z:=fun x hx=>by
    obtain⟨j,hj,rfl⟩:=List.mem_iff_getElem.1 hx;exact HNO.o j hj (by rw[HRT.o] at hj;exact hj)
   have HOK:=hY hok;clear hok hby2
   go_upto_if 110 with fail
   iterate 4 go_step
   refine HNX.o HOK.o _ _ HGR.o ?_;exact⟨rfl,rfl,rfl,rfl,rfl,rfl,HG.o.trans HGR.o,HBX2.o,HBY2.o⟩
theorem pl_p5(n:Nat)(w W:World)(v:Value)(k tx ty:Nat)(T:List UInt8)(d:StC)(z:Gr.Stp)(Q:Exit→Act→World→Prop)(a0:Act)
  (h0:At17 w v k T tx ty d a0 W) (hn:StepIs W d z) (hok:Gr.OkB fitsP 0 z.nd) (hkd:1≤z.kind∧z.kind≤5) (hT:T.length≤100000)
  (hnext:∀a' W',Grew W W'→Pre17 w v k (T++(Oc.be z.kind++(Oc.be (if z.reset then 1 else 0)++Gr.putNd putI z.nd))) a' W'→Q .normal a' W') :
  Code.wp Tryz.prog (tail17 23) Q a0 W:=by
 obtain⟨hfr,h00,h04,h05,h06,h07,hg,hbx,hby⟩:=h0;obtain⟨u,hu⟩:∃u:Nat→Value,u=fun i=>a0.tmps.getD i undef:=⟨_,rfl⟩
 rw[←hu] at hfr;have u0:u 0=_:=(congrFun hu 0).trans h00;have u4:u 4=_:=(congrFun hu 4).trans h04;have u5:u 5=_:=(congrFun hu 5).trans h05;have u6:u 6=_:=(congrFun hu 6).trans h06;have u7:u 7=_:=(congrFun hu 7).trans h07;clear hu h00 h04 h05 h06 h07;subst hfr
 conv=>arg 2;whnf
 unfold framePl;rw[u0,u4,u5,u6,u7];clear u0 u4 u5 u6 u7;have HN:=hY fun W' (g:Grew W W')=>node13_any d.c z.nd 0 (by decide) W' (hn.nd.grew g) hok
 have hnl:=putNd_len hok;have ekind:=hn.kind;have ereset:=hn.reset;have f1:Oc.fitsN z.kind=true:=fits_of (by omega) (by omega);have HK:=hY fun W'=>num13_any z.kind f1 W'
 have H1:=hY fun W'=>num13_any 1 rfl W'
 have H0:=hY fun W'=>num13_any 0 rfl W'
 have b1:(Oc.be z.kind).length≤4:=Nat.le_of_eq (Oc.be_len _);have b2:(Oc.be 1).length≤4:=Nat.le_of_eq (Oc.be_len _);have b3:(Oc.be 0).length≤4:=Nat.le_of_eq (Oc.be_len _);rw[ekind] at HK b1 hnext;rw[ereset] at hnext;obtain⟨dk,dr,id,kd,af,cf,ap,cp,par,r0,r1,r2,r3,r4,r5,r6,r7,rfl⟩:=hn.lit;simp only at HK b1 hnext HN;have HG:=hY hg;have a0:=cell_of (o:=0) hbx;have a14:=cell_of (o:=14) hbx;simp[encSt] at a0 a14;have c0:=cell_of (o:=0) hby;have c1:=cell_of (o:=1) hby;have c2:=cell_of (o:=2) hby;have c3:=cell_of (o:=3) hby;have c4:=cell_of (o:=4) hby;have c5:=cell_of (o:=5) hby;have c6:=cell_of (o:=6) hby;have c7:=cell_of (o:=7) hby;have c8:=cell_of (o:=8) hby;have c9:=cell_of (o:=9) hby;have c10:=cell_of (o:=10) hby;have c11:=cell_of (o:=11) hby;have c12:=cell_of (o:=12) hby;simp[encNd] at c0 c1 c2 c3 c4 c5 c6 c7 c8 c9 c10 c11 c12;have px:=Pre.mk (heap_lt hbx);have py:=Pre.mk (heap_lt hby);clear hg hbx hby hn ekind ereset f1 hkd hok;cases dr
 ·simp only[Bool.false_eq_true,if_false] at hnext;generalize Oc.be dk=A at *;generalize Oc.be 0=B at *;generalize Gr.putNd putI z.nd=Y at *;have HNX:=hY hnext;clear hnext
  go_wp2_with (first
   | (go_at_call_of 124 (Value.int IntKind.i64 dk);refine(HK.o _).mono ?_;rintro e w2 ⟨rfl,R5,n5,rfl⟩)
   | (go_at_call 124;refine(H0.o _).mono ?_;rintro e w2 ⟨rfl,R6,n6,rfl⟩)
   | (go_at_call 126;refine(HN.o _ gw).mono ?_;rintro e w2 ⟨rfl,R7,n7,rfl⟩))
  refine HNX.o _ _ gw ⟨rfl,rfl,?_,rfl,HG.o.trans gw⟩;refine congrArg Value.string ?_;rw[str_cat,str_cat,str_cat,List.append_assoc,List.append_assoc]
 ·simp only[if_true] at hnext;generalize Oc.be dk=A at *;generalize Oc.be 1=B at *;generalize Gr.putNd putI z.nd=Y at *;have HNX:=hY hnext;clear hnext
  go_wp2_with (first
   | (go_at_call_of 124 (Value.int IntKind.i64 dk);refine(HK.o _).mono ?_;rintro e w2 ⟨rfl,R5,n5,rfl⟩)
   | (go_at_call 124;refine(H1.o _).mono ?_;rintro e w2 ⟨rfl,R6,n6,rfl⟩)
   | (go_at_call 126;refine(HN.o _ gw).mono ?_;rintro e w2 ⟨rfl,R7,n7,rfl⟩))
  refine HNX.o _ _ gw ⟨rfl,rfl,?_,rfl,HG.o.trans gw⟩;refine congrArg Value.string ?_;rw[str_cat,str_cat,str_cat,List.append_assoc,List.append_assoc]
def Post13(p:List Gr.Stp)(w:World)(e:Ending)(w':World): Prop:=∃(t:List UInt8) (b:Bool),e = .returned (.tuple #[str t,.bool b])∧Grew w w'∧(Gr.OkPl fitsP p→t=Gr.putPl putI p∧b=true)∧(¬Gr.OkPl fitsP p→t=[]∧b=false)
theorem putSt_len{s:Gr.Stp}(h:Gr.OkS fitsP s): (Gr.putSt putI s).length≤308:=by
 have:=putNd_len h.2;unfold Gr.putSt;rw[List.length_append,List.length_append,Oc.be_len,Oc.be_len];omega
theorem flatSt_len:∀{l:List Gr.Stp},(∀s∈l,Gr.OkS fitsP s)→(l.flatMap (Gr.putSt putI)).length≤l.length*308
 | [],_=>Nat.le_refl _
 |s::l,h=>by
  have h1:=putSt_len (h s (List.mem_cons_self ..));have h2:=flatSt_len (l:=l) fun x hx=>h x (List.mem_cons_of_mem _ hx)
  rw[List.flatMap_cons,List.length_append,List.length_cons];omega
theorem okS_parts{w:World}{d:StC}{s:Gr.Stp}(hd:StepIs w d (Gr.cleanS s))(hk:1≤s.kind∧s.kind≤5)(h1:OkP (Gr.cleanS s))(h2:OkPF (Gr.cleanS s))(h3:OkPR (Gr.cleanS s)): Gr.OkS fitsP s :=
 ⟨hk,⟨⟨h1.1,h1.2.1⟩,⟨h1.2.2.1,h1.2.2.2.1⟩,h1.2.2.2.2.1,h2,h1.2.2.2.2.2.2.2,⟨h1.2.2.2.2.2.1,h1.2.2.2.2.2.2.1⟩,hd.nd.r8,h3⟩⟩
theorem ret17_end{w W:World}{a:Act}{p:List Gr.Stp}(h:Ret17 w a W)(e:¬Gr.OkPl fitsP p): bodyPost Tryz.prog Tryz.f64 (Post13 p w) .ret a W:=by
 obtain⟨t,d⟩:=a;obtain⟨h1,h2,h3,h4⟩:=h;simp only at h1 h2 h3;subst h3;refine bodyPost_ret (v:=.tuple #[str [],.bool false]) ?_ rfl ⟨[],false,rfl,h4,fun q=>absurd q e,fun _=>⟨rfl,rfl⟩⟩;simp[results,Tryz.results64,go_sem];rw[←Array.getD_eq_getD_getElem?,h1,←Array.getD_eq_getD_getElem?,h2];exact⟨rfl,rfl⟩
theorem take_next{p:List Gr.Stp}{k:Nat}{y:Gr.Stp}(h:p[k]? = some y)(T:List UInt8): T++(p.take (k+1)).flatMap (Gr.putSt putI)=(T++(p.take k).flatMap (Gr.putSt putI))++Gr.putSt putI y:=by
 rw[List.take_add_one,h,Option.toList_some,List.flatMap_append,List.append_assoc]
 congr 1
 rw[List.flatMap_cons,List.flatMap_nil,List.append_nil]
theorem plan13_any(v:Value)(p:List Gr.Stp)(w:World)(hv:StepsAt w v p): Calls Tryz.prog 64 #[v] w (Post13 p w):=by
 have HV:=hY hv;obtain⟨a,cap,rfl,hm,-⟩:=hv.openC;clear hv;by_cases h1:p.length<1
 ·have hb:¬Gr.OkPl fitsP p:=fun h=>by have:=h.1;omega
  have HB:=hY hb;have h1':(p.length:Int)<1:=by omega
  clear hb h1;go_enter Tryz.func64,Tryz.ntmps64;go_wp2;exact ret17_end ⟨rfl,rfl,rfl,gw⟩ HB.o
 by_cases h6:6<p.length
 ·have hb:¬Gr.OkPl fitsP p:=fun h=>by have:=h.2.1;omega
  have HB:=hY hb;have h6':(6:Int)<(p.length:Int):=by omega
  have h1':¬(p.length:Int)<1:=by omega
  clear hb h1 h6;go_enter Tryz.func64,Tryz.ntmps64;go_wp2;exact ret17_end ⟨rfl,rfl,rfl,gw⟩ HB.o
 have h6':¬(6:Int)<(p.length:Int):=by omega
 have h1':¬(p.length:Int)<1:=by omega
 have HL:=hY (And.intro h1 h6);have f0:Oc.fitsN (p.length:Int)=true:=fits_of (by omega) (by omega);have b0:(Oc.be (p.length:Int)).length≤4:=Nat.le_of_eq (Oc.be_len _);have hpl:Gr.putPl putI p=Oc.be (p.length:Int)++p.flatMap (Gr.putSt putI):=rfl;have HPL:=hY hpl;have HNUM:=hY fun W=>num13_any _ f0 W
 clear h1 h6 hpl f0;generalize Oc.be (p.length:Int)=T0 at *;go_enter Tryz.func64,Tryz.ntmps64
 go_wp2_with (go_at_call 124;refine(HNUM.o _).mono ?_;rintro e w2 ⟨rfl,R5,n5,rfl⟩)
 refine wp_loop_ghost_k (fun gg a' wr=>∃k:Nat,k≤p.length∧p.length-k≤gg∧Pre17 w (.slice a p.length cap) k (T0++(p.take k).flatMap (Gr.putSt putI)) a' wr∧∀s∈p.take k,Gr.OkS fitsP s) p.length ?_ ?_
 ·exact⟨0,by omega,by omega,⟨rfl,rfl,by rw[List.take_zero,List.flatMap_nil,List.append_nil];rfl,rfl,gw⟩,fun s h=>by simp at h⟩
 ·rintro gg a1 wr ⟨k,hk8,hgg,⟨hfr,h00,h04,h05,hg⟩,hno⟩ J K hJ hK;have HK:Hid (∀a' w',(∃n',n'<gg∧∃k:Nat,k≤p.length∧p.length-k≤n'∧Pre17 w (.slice a p.length cap) k (T0++(p.take k).flatMap (Gr.putSt putI)) a' w'∧∀s∈p.take k,Gr.OkS fitsP s)→K a' w'):=hY fun a' w' ⟨n',h1,h2⟩=>hK _ _ (Handed.intro n' h1 (hJ _ _ _ h2))
  have HGR:=hY hg;have HNO:=hY hno
  have hTl:(T0++(p.take k).flatMap (Gr.putSt putI)).length≤100000:=by
   have:=flatSt_len hno;rw[List.length_append];rw[List.length_take] at this;omega
  obtain⟨u,hu⟩:∃u:Nat→Value,u=fun i=>a1.tmps.getD i undef:=⟨_,rfl⟩
  rw[←hu] at hfr;have u0:u 0=_:=(congrFun hu 0).trans h00;have u4:u 4=_:=(congrFun hu 4).trans h04;have u5:u 5=_:=(congrFun hu 5).trans h05;clear hu h00 h04 h05 hno hg hJ hK;subst hfr;unfold framePl;rw[u0,u4,u5];clear u0 u4 u5;by_cases hlt:k<p.length
  ·obtain⟨av,cv,e,-,hx⟩:=(HV.o.grew HGR.o).openC;cases e;obtain⟨b,off,c,rfl,hb,hn,c0,c1,c2,c3,c4,c5,c6,c7,c8,c9,c10,c11,c12,c13,c14⟩:=hx k hlt;have hget:p[k]? = some p[k]:=List.getElem?_eq_getElem hlt;have hmem:p[k]∈p:=List.getElem_mem hlt;have HX:=hY (And.intro hn (And.intro c0 (And.intro c1 (And.intro c2 (And.intro c3 (And.intro c4 (And.intro c5 (And.intro c6 (And.intro c7 (And.intro c8 (And.intro c9 (And.intro c10 (And.intro c11 (And.intro c12 (And.intro c13 c14)))))))))))))));have HGET:=hY hget;have HMEM:=hY hmem;clear hx hn c0 c1 c2 c3 c4 c5 c6 c7 c8 c9 c10 c11 c12 c13 c14 hget hmem;generalize p[k]=y at *;have hbad:¬Gr.OkS fitsP y→¬Gr.OkPl fitsP p:=fun h q=>h (q.2.2 _ HMEM.o)
   have HBAD:=hY hbad;have htn:=take_next HGET.o T0;have HTN:=hY htn;clear hbad htn;generalize hT:T0++(p.take k).flatMap (Gr.putSt putI)=T at *;clear hT
   go_upto_if 24 with fail
   iterate 6 go_step
   obtain⟨hn,c0,c1,c2,c3,c4,c5,c6,c7,c8,c9,c10,c11,c12,c13,c14⟩:=HX.o;refine pl_p1 p.length wr wr b off cap k T c.kind _ _ ?_ hlt hm hb c0 ?_ ?_
   ·exact⟨rfl,rfl,rfl,rfl,Grew.refl wr⟩
   ·intro h a' w' hr;exact ret17_end ⟨hr.t2,hr.t3,hr.d,HGR.o.trans hr.g⟩ (HBAD.o fun q=>h (by have:=q.1;rw[hn.kind] at this;exact this))
   ·intro hkd a2 h2;refine pl_p2 p.length wr wr b off cap k T c y (Gr.cleanS y) _ _ h2 hlt hm hn rfl hkd hb c0 c1 c2 c3 c4 c5 c6 c7 c8 c9 c10 c11 c12 c13 c14 ?_ ?_
    ·intro h a' w' hr;exact ret17_end ⟨hr.t2,hr.t3,hr.d,HGR.o.trans hr.g⟩ (HBAD.o fun q=>h ⟨q.2.i.1,q.2.i.2,q.2.k.1,q.2.k.2,q.2.m,q.2.r.1,q.2.r.2,q.2.p⟩)
    ·intro o1 a3 W3 tx ty d g3 hd3 h3;refine pl_p3 p.length wr W3 _ k tx ty T d (Gr.cleanS y) _ _ h3 hd3 o1.2.2.2.2.1 ?_ ?_
     ·intro h a' w' hr;exact ret17_end ⟨hr.t2,hr.t3,hr.d,HGR.o.trans hr.g⟩ (HBAD.o fun q=>h q.2.f)
     ·intro o2 a4 W4 g4 h4;refine pl_p4 p.length wr W4 _ k tx ty T d (Gr.cleanS y) _ _ h4 (hd3.grew g4) ?_ ?_
      ·intro h a' w' hr;exact ret17_end ⟨hr.t2,hr.t3,hr.d,HGR.o.trans hr.g⟩ (HBAD.o fun q=>h q.2.o)
      ·intro o3 a5 W5 g5 h5;have hkd2:1≤y.kind∧y.kind≤5:=by rw[hn.kind];exact hkd
       have hok:=okS_parts hd3 hkd2 o1 o2 o3;refine pl_p5 p.length wr W5 _ k tx ty T d (Gr.cleanS y) _ _ h5 ((hd3.grew g4).grew g5) hok.2 (by rw[Gr.clean_kind hkd2];exact hkd2) hTl ?_;intro a6 W6 g6 h6;have HOK:=hY hok;obtain⟨hfr,h00,h04,h05,hg⟩:=h6;obtain⟨u,hu⟩:∃u:Nat→Value,u=fun i=>a6.tmps.getD i undef:=⟨_,rfl⟩
       rw[←hu] at hfr;have u0:u 0=_:=(congrFun hu 0).trans h00;have u4:u 4=str (T++Gr.putSt putI y):=(congrFun hu 4).trans h04;have u5:u 5=_:=(congrFun hu 5).trans h05;clear hu h00 h04 h05;subst hfr;unfold framePl;rw[u0,u4,u5];generalize Gr.putSt putI y=Z at *;have HG6:=hY hg;clear hg u0 u4 u5 o1 o2 o3 h2 h3 h4 h5 g3 g4 g5 g6 hd3 hn c0 c1 c2 c3 c4 c5 c6 c7 c8 c9 c10 c11 c12 c13 c14 hok hkd hkd2;go_wp2;refine HK.o _ _ ⟨p.length-(k+1),by omega,k+1,by omega,by omega,⟨rfl,rfl,?_,?_,HGR.o.trans (HG6.o.trans gw)⟩,?_⟩
       ·rw[HTN.o];rfl
       ·exact congrArg (Value.int .i64) (by omega:(k:Int)+1=((k+1:Nat):Int))
       ·intro s hs;rw[List.take_add_one,HGET.o] at hs;simp only[Option.toList_some,List.mem_append,List.mem_singleton] at hs;rcases hs with hs|rfl
        ·exact HNO.o s hs
        ·exact HOK.o
  ·obtain rfl:k=p.length:=by omega
   have hok:Gr.OkPl fitsP p:=⟨by have:=HL.o.1;omega,by have:=HL.o.2;omega,fun s hs=>HNO.o s (by rw[List.take_length];exact hs)⟩;have HOK:=hY hok;have ht:T0++(p.take p.length).flatMap (Gr.putSt putI)=Gr.putPl putI p:=by rw[List.take_length,HPL.o]
   have HT:=hY ht;clear hok ht;generalize T0++(p.take p.length).flatMap (Gr.putSt putI)=T at *;go_wp2;exact bodyPost_ret (v:=.tuple #[str T,.bool true]) (by simp[results,Tryz.results64,go_sem]) rfl ⟨T,true,rfl,HGR.o,fun _=>⟨HT.o,rfl⟩,fun h=>absurd HOK.o h⟩
end Go.Proofs.YtipgfjihdglocaaGreat
