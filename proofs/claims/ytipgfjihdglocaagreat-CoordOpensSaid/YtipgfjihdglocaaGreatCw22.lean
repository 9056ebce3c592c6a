import Derived.Test.YtipgfjihdglocaaGreatCw19
import Derived.Test.YtipgfjihdglocaaGreatCw18
import Derived.ChangeKeysEq
import Derived.Test.YtipgfjihdglocaaGreatCw9
set_option linter.unusedSimpArgs false
set_option linter.unusedVariables false
set_option maxRecDepth 100000
set_option maxHeartbeats 64000000
namespace Go.Proofs.YtipgfjihdglocaaGreat
open Go.RowKit Ga
theorem clean49_5(id kd par r0 r1 r2 r3 r4 r5 r6 r7:Int)(af ap:Option Addr)(nf cf np cp:Nat)(reset:Bool)(s:Gr.Stp)(w:World)(hn:StepIs w ⟨5,⟨id,kd,af,nf,cf,ap,np,cp,par,r0,r1,r2,r3,r4,r5,r6,r7⟩,reset⟩ s)(hs:s.nd.frm.length≤1000∧s.nd.prog.length≤1000): Calls Tryz.prog 105 #[.agg #[.int .i64 5,.int .i64 id,.int .i64 kd,.slice af nf cf,.slice ap np cp,.int .i64 par,.int .i64 r0,.int .i64 r1,.int .i64 r2,.int .i64 r3,.int .i64 r4,.int .i64 r5,.int .i64 r6,.int .i64 r7,.bool reset]] w (CleanGives (Gr.cleanS s) w):=by
 have hcl:=hn.clean;have HCL:=hY hcl;have HN:=hY hn;have H1:=hY fun W (g:Grew w W)=>cloneInts_any _ s.nd.frm W (HN.o.nd.f.grew g) hs.1
 have H2:=hY fun W (g:Grew w W)=>cloneVals_any _ s.nd.prog W (HN.o.nd.p.grew g) hs.2
 have HND:=hY hn.nd;have HS:=hY hs;have HK:=hY hn.kind;clear hn hcl hs;go_enter Tryz.func105,Tryz.ntmps105
 go_upto_region 14 with fail
 refine wp_region_noPanic ?_
 go_region_law (first
  | (go_simp;go_at_call 80;refine(H1.o _ gw).mono ?_;rintro e w1 ⟨v1,rfl,ho1,R3,n3,rfl⟩;obtain⟨a1,c1,rfl⟩:=(ho1.rows encN_len).len;(have HO1:=hY ho1);clear ho1))
 all_goals
  refine NoPanic.normal ?_;go_wp2;refine bodyPost_ret (res_clean49 rfl (grew_heap ((Grew.refl _).more _ _) (heap_alloc' (heap_alloc' (heap_new_at (w.alloc _) _ _ (by simp[World.size_alloc])) _) _))) rfl ?_;refine clean_made5 HN.o (OwnAt.low (OwnAt.same HO1.o fun b hb=>heap_more_same (by simp[World.size_alloc]) _ _ _ (by have:=HO1.o.lt b hb;simp[World.size_alloc] at this ⊢;omega)) (by simp[World.size_alloc];omega)) gw
def sortedB(l:List Gr.Nd): Bool:=decide (l.Pairwise fun a b=>a.id≤b.id)
theorem sortedB_true{l:List Gr.Nd}(h:∀j (hj:j<l.length),0<j→l[j-1].id≤l[j].id): sortedB l=true:=by
 unfold sortedB;rw[decide_eq_true_eq,List.pairwise_iff_getElem]
 have key:∀d i (hj:i+d<l.length),l[i].id≤l[i+d].id:=by
  intro d
  induction d with
  | zero=>intro i hj;exact Int.le_refl _
  |succ d ih =>
   intro i hj;have h1:=ih i (by omega);have h2:=h (i+(d+1)) hj (by omega);simp only[show i+(d+1)-1=i+d by omega] at h2;exact Int.le_trans h1 h2
 intro i j hi hj hij;have:=key (j-i) i (by omega);simp only[show i+(j-i)=j by omega] at this;exact this
theorem sortedB_false{l:List Gr.Nd}{j:Nat}(hj:j<l.length)(h0:0<j)(h:l[j].id<l[j-1].id): sortedB l=false:=by
 unfold sortedB;rw[decide_eq_false_iff_not,List.pairwise_iff_getElem];intro hp;have:=hp (j-1) j (by omega) hj (by omega);omega
theorem cmpD_any(x y:NdC)(W:World)(h1:0≤x.id∧x.id≤1000)(h2:0≤y.id∧y.id≤1000): Calls Tryz.prog 184 #[.agg #[.int .i64 x.id,.int .i64 x.kind,.slice x.af x.nf x.cf,.slice x.ap x.np x.cp,.int .i64 x.par,.int .i64 x.r0,.int .i64 x.r1,.int .i64 x.r2,.int .i64 x.r3,.int .i64 x.r4,.int .i64 x.r5,.int .i64 x.r6,.int .i64 x.r7],.agg #[.int .i64 y.id,.int .i64 y.kind,.slice y.af y.nf y.cf,.slice y.ap y.np y.cp,.int .i64 y.par,.int .i64 y.r0,.int .i64 y.r1,.int .i64 y.r2,.int .i64 y.r3,.int .i64 y.r4,.int .i64 y.r5,.int .i64 y.r6,.int .i64 y.r7]] W (Gives (.int .i64 (x.id-y.id)) W):=by
 obtain⟨xi,xk,xaf,xnf,xcf,xap,xnp,xcp,xpar,x0,x1,x2,x3,x4,x5,x6,x7⟩:=x;obtain⟨yi,yk,yaf,ynf,ycf,yap,ynp,ycp,ypar,y0,y1,y2,y3,y4,y5,y6,y7⟩:=y;simp only at *;obtain⟨h1,h1'⟩:=h1;obtain⟨h2,h2'⟩:=h2;go_enter Tryz.func184,Tryz.ntmps184;go_wp2;go_ret;refine⟨rfl,?_⟩;exact gw
theorem enters184:∀args w,(callFunc 184 args).run Tryz.prog w = .ok (.enter 184 args) w:=enters_of Tryz.func184 (by kernel_rfl) rfl
theorem isSorted_any(v:Value)(l:List Gr.Nd)(w:World)(hv:NodesAt w v l)(hid:∀n∈l,0≤n.id∧n.id≤1000)(hl:l.length≤1000):
  Calls Tryz.prog 183 #[v,.func (.func 184) #[] #[]] w (Gives (.bool (sortedB l)) w):=by
 have HV:=hY hv;have HID:=hY hid;have eg:=enters184;obtain⟨a,cap,rfl,hm,-⟩:=hv.openC;clear hv hid;go_enter Tryz.func183,Tryz.ntmps183;go_wp2
 go_loopg [5] l.length (fun gg s5 wr=>∃i:Int,-1≤i∧i<l.length∧i≤gg∧s5 = .int .i64 i∧Hid (Grew w wr)∧Hid (∀j (hj:j<l.length),i<j→0<j→l[j-1].id≤l[j].id))
 case atStart=>exact⟨(l.length:Int)-1,by omega,by omega,by omega,rfl,hY gw,hY fun j hj h _=>by omega⟩
 case round =>
  obtain⟨i,hi0,hi1,hgg,rfl,HG,HNO⟩:=hrel;by_cases hpos:0<i
  ·obtain⟨k,rfl⟩:∃k:Nat,i=(k:Int)+1:=⟨(i-1).toNat,by omega⟩;have hk1:k+1<l.length:=by omega
   obtain⟨a',cap',e,-,hx⟩:=(HV.o.grew HG.o).openC;cases e;obtain⟨b,off,c,rfl,hb,hn,c0,c1,c2,c3,c4,c5,c6,c7,c8,c9,c10,c11,c12⟩:=hx (k+1) hk1;obtain⟨b',off',d,eb,hb',hn',d0,d1,d2,d3,d4,d5,d6,d7,d8,d9,d10,d11,d12⟩:=hx k (by omega);cases eb;have hi1:=HID.o _ (List.getElem_mem hk1);have hi2:=HID.o _ (List.getElem_mem (show k<l.length by omega));have e1:=hn.id;have e2:=hn'.id;rw[e1] at hi1;rw[e2] at hi2;have hcm:=fun W=>cmpD_any c d W hi1 hi2
   have E1:=hY e1;have E2:=hY e2;clear hx hn hn' e1 e2;obtain⟨cid,kind,af,nf,cf,ap,np,cp,par,r0,r1,r2,r3,r4,r5,r6,r7⟩:=c;obtain⟨did,dkind,daf,dnf,dcf,dap,dnp,dcp,dpar,t0,t1,t2,t3,t4,t5,t6,t7⟩:=d;simp only at c0 c1 c2 c3 c4 c5 c6 c7 c8 c9 c10 c11 c12 d0 d1 d2 d3 d4 d5 d6 d7 d8 d9 d10 d11 d12 hcm hi1 hi2;have HCM:=hY hcm;obtain⟨i1,i2⟩:=hi1;obtain⟨j1,j2⟩:=hi2;clear hcm
   go_upto_region 4 with fail
   refine wp_region_seq 12 Tryz.mixed (by kernel_rfl) (by kernel_rfl) ?_
   iterate 12
    apply Seq.val
    focus
     rintro w1 u ⟨R1,n1,rfl⟩ hF;simp[moreFacts,Fact.more,Oper.deps,Region.binds,List.filter_cons,World.more_drew] at hF;simp[putFacts,Oper.deps,Region.binds,List.filter_cons,Region.dstOf,Fact.at,Act.put,World.more_drew]
     go_wp2_with (go_at_fn 184;refine(HCM.o _).mono ?_;rintro e w2 ⟨rfl,R3,n3,rfl⟩)
     exact⟨gw,rfl,_,_,rfl,rfl,rfl⟩
   rintro u w1 ⟨R1,n1,rfl⟩ hF;clear hF;simp[putFacts,Region.dstOf,Fact.at,Act.put,List.range_succ,World.more_drew];by_cases hlt:cid-did<0
   ·have hr:=sortedB_false hk1 (by omega) (by simp only[Nat.add_sub_cancel];rw[E1.o,E2.o];simp only;omega);have HR:=hY hr;clear hr;go_wp2;go_ret;exact⟨by rw[HR.o];rfl,HG.o.trans gw⟩
   ·have hge:0≤cid-did:=by omega
    go_wp2
    go_roundg (k:Nat)
    case measure=>omega
    case rel=>exact⟨(k:Int),by omega,by omega,by omega,by go_num,hY (HG.o.trans gw),hY fun j hj h h0=>by
     by_cases h1:(k:Int)+1<j
     ·exact HNO.o j hj h1 h0
     ·obtain rfl:j=k+1:=by omega
      have h4:l[k+1].id=cid:=E1.o;have h5:l[k].id=did:=E2.o;show l[k].id≤l[k+1].id
      omega⟩
  ·go_wp2;have hr:=sortedB_true fun j hj h0=>HNO.o j hj (by omega) h0
   have HR:=hY hr;clear hr;go_ret;exact⟨by rw[HR.o];rfl,HG.o⟩
theorem sorted_any(v:Value)(l:List Gr.Nd)(w:World)(hv:NodesAt w v l)(hid:∀n∈l,0≤n.id∧n.id≤1000)(hl:l.length≤1000): Calls Tryz.prog 139 #[v] w (Gives (.bool (sortedB l)) w):=by
 have HI:=hY (isSorted_any v l w hv hid hl);obtain⟨a,cap,rfl,hm,-⟩:=hv.openC;clear hv;go_enter Tryz.func139,Tryz.ntmps139
 go_wp2_with (go_at_call 183;refine HI.o.mono ?_;rintro e w1 ⟨rfl,R3,n3,rfl⟩)
 go_ret;refine⟨rfl,?_⟩;exact gw
theorem readL_many:∀(n:Nat) (s:List UInt8) (acc:List Val),(readL n s acc).1.length≤acc.length+n
 | 0,s,acc=>Nat.le_refl _
 |n+1,s,acc=>by
  rw[readL];split
  ·simp
  ·split
   ·simp
   ·have:=readL_many n (numR (within s 0 17).2.2).2.2 (acc++[((within s 0 17).1,(numR (within s 0 17).2.2).1)]);rw[List.length_append] at this;simp at this;omega
theorem getL_many(s:List UInt8): (getL s).1.length≤24:=by
 have h0:(within s 0 24).1.toNat≤24:=by
  have:=numS_range (a:=0) (b:=24) (s,0) (by omega) (by omega);unfold Gr.numS at this;rw[if_neg (by simp)] at this;have h2:(within s 0 24).1≤24:=this.2;omega
 have h1:=readL_many (within s 0 24).1.toNat (within s 0 24).2.2 [];simp only[List.length_nil,Nat.zero_add] at h1;unfold getL;split
 ·simp
 ·split
  ·omega
  ·split
   ·omega
   ·simp
theorem nodeS_small(lp:Int)(s:Gr.Rs): (Gr.nodeS getL lp s).1.frm.length≤3∧(Gr.nodeS getL lp s).1.prog.length≤24∧0≤(Gr.nodeS getL lp s).1.id∧(Gr.nodeS getL lp s).1.id≤7∧(Gr.nodeS getL lp s).1.route.length=8:=by
 unfold Gr.nodeS;simp only;have h1:=numS_range (a:=0) (b:=7) s (by omega) (by omega);refine⟨?_,?_,h1.1,h1.2,(listS_len 0 2 8 _).1⟩
 ·rw[(listS_len 0 7 _ _).1];have:=numS_range (a:=0) (b:=3) (Gr.numS 0 2 (Gr.numS 0 7 s).2).2 (by omega) (by omega);omega
 ·unfold Gr.progS;split
  ·simp
  ·exact getL_many _
theorem nodesS_small(lp:Int): ∀(k:Nat) (s:Gr.Rs),∀n∈(Gr.nodesS getL lp k s).1,n.frm.length≤3∧n.prog.length≤24∧0≤n.id∧n.id≤7∧n.route.length=8
 | 0,s,n,h=>by cases h
 |k+1,s,n,h=>by
  rw[Gr.nodesS] at h;rcases List.mem_cons.1 h with rfl|h1
  ·exact nodeS_small lp s
  ·exact nodesS_small lp k _ n h1
theorem NodesAt.nil(w:World): NodesAt w (.slice none 0 0) []:=⟨[],RowsAt.nil,rfl,fun i c n h=>by simp at h⟩
theorem rd_new(w:World)(s:List UInt8): RdAt w.heap.size (w.heap.size+1) w.heap.size ((w.alloc (.cells #[.string ⟨s.toArray⟩] 214)).alloc (.cells #[.pointer (some ⟨w.heap.size,0,none⟩),.int .i64 0] 161)) (s,0) :=
 ⟨by omega,heap_new_at _ _ _ (by rw[World.size_alloc]),Nat.le_refl _,heap_alloc_old (heap_new_at _ _ _ rfl) _⟩
theorem eq8(r0 r1 r2 r3 r4 r5 r6 r7 s0 s1 s2 s3 s4 s5 s6 s7:Int)(w:World): (binOp .eql 50 (.agg #[.int .i64 r0,.int .i64 r1,.int .i64 r2,.int .i64 r3,.int .i64 r4,.int .i64 r5,.int .i64 r6,.int .i64 r7]) (.agg #[.int .i64 s0,.int .i64 s1,.int .i64 s2,.int .i64 s3,.int .i64 s4,.int .i64 s5,.int .i64 s6,.int .i64 s7])).run Tryz.prog w = .ok (.bool (decide ([r0,r1,r2,r3,r4,r5,r6,r7]=[s0,s1,s2,s3,s4,s5,s6,s7]))) w:=by
 have u3:=Tryz.underlying3;have a3:=Tryz.isAgg3;have z3:=Tryz.sizeOf3;obtain⟨i,hi⟩:∃i,Tryz.prog.info? 3=some i:=info_of_underlying u3;rw[run_eql_struct,show(10000:Nat)=9999+1 from rfl,run_equalIn_array w 9999 _ _ Tryz.underlying50 hi];rw[show Tryz.prog.cellsOf 3=1 by kernel_rfl];rw[show List.range 8=[0,1,2,3,4,5,6,7] from rfl];simp only[Op.eqItems];go_simp;by_cases h0:r0=s0
 ·by_cases h1:r1=s1
  ·by_cases h2:r2=s2
   ·by_cases h3:r3=s3
    ·by_cases h4:r4=s4
     ·by_cases h5:r5=s5
      ·by_cases h6:r6=s6
       ·by_cases h7:r7=s7
        ·simp[h0,h1,h2,h3,h4,h5,h6,h7]
        ·simp[h0,h1,h2,h3,h4,h5,h6,h7]
       ·simp[h0,h1,h2,h3,h4,h5,h6]
      ·simp[h0,h1,h2,h3,h4,h5]
     ·simp[h0,h1,h2,h3,h4]
    ·simp[h0,h1,h2,h3]
   ·simp[h0,h1,h2]
  ·simp[h0,h1]
 ·simp[h0]
open Classical in
noncomputable def eqNd(n m:Gr.Nd): Bool:=decide (n=m)
open Classical in
theorem eqNd_false{n m:Gr.Nd}(h:n≠m): eqNd n m=false:=by unfold eqNd;exact decide_eq_false h
open Classical in
theorem eqNd_true{n m:Gr.Nd}(h:n=m): eqNd n m=true:=by unfold eqNd;exact decide_eq_true h
theorem eqNd_iff{n m:Gr.Nd}{p:Prop}[Decidable p](h:n=m↔p): eqNd n m=decide p:=by
 by_cases hp:p
 ·rw[eqNd_true (h.2 hp),decide_eq_true hp]
 ·rw[eqNd_false (fun q=>hp (h.1 q)),decide_eq_false hp]
theorem refNode08_any(c d:NdC)(n m:Gr.Nd)(w:World)(hn:NodeIs w c n)(hm:NodeIs w d m): Calls Tryz.prog 66 #[.agg #[.int .i64 c.id,.int .i64 c.kind,.slice c.af c.nf c.cf,.slice c.ap c.np c.cp,.int .i64 c.par,.int .i64 c.r0,.int .i64 c.r1,.int .i64 c.r2,.int .i64 c.r3,.int .i64 c.r4,.int .i64 c.r5,.int .i64 c.r6,.int .i64 c.r7],.agg #[.int .i64 d.id,.int .i64 d.kind,.slice d.af d.nf d.cf,.slice d.ap d.np d.cp,.int .i64 d.par,.int .i64 d.r0,.int .i64 d.r1,.int .i64 d.r2,.int .i64 d.r3,.int .i64 d.r4,.int .i64 d.r5,.int .i64 d.r6,.int .i64 d.r7]] w (Gives (.bool (eqNd n m)) w):=by
 have HF:=hY hn.f;have HF2:=hY hm.f;have HS:=hY fun W (g:Grew w W)=>refSame_any _ _ n.prog m.prog W (hn.p.grew g) (hm.p.grew g)
 obtain⟨id,kind,af,cf,ap,cp,par,r0,r1,r2,r3,r4,r5,r6,r7,rfl⟩:=hn.lit;obtain⟨id2,kind2,af2,cf2,ap2,cp2,par2,s0,s1,s2,s3,s4,s5,s6,s7,rfl⟩:=hm.lit;have e1:=hn.id;have e2:=hn.kind;have e3:=hn.par;have e4:=hn.route;have g1:=hm.id;have g2:=hm.kind;have g3:=hm.par;have g4:=hm.route;simp only at e1 e2 e3 e4 g1 g2 g3 g4 HF HF2 HS;have E1:=hY e1;have E2:=hY e2;have E3:=hY e3;have E4:=hY e4;have G1:=hY g1;have G2:=hY g2;have G3:=hY g3;have G4:=hY g4;obtain⟨fn,hfn⟩:∃fn,fn=n.frm:=⟨_,rfl⟩;obtain⟨fm,hfm⟩:∃fm,fm=m.frm:=⟨_,rfl⟩;have HFN:=hY hfn;have HFM:=hY hfm;rw[←hfn] at HF;rw[←hfm] at HF2;rw[←hfn,←hfm];clear e1 e2 e3 e4 g1 g2 g3 g4 hn hm hfn hfm;have H8:=hY (eq8 r0 r1 r2 r3 r4 r5 r6 r7 s0 s1 s2 s3 s4 s5 s6 s7);show Calls Tryz.prog 66 #[.agg #[.int .i64 id,.int .i64 kind,.slice af fn.length cf,.slice ap n.prog.length cp,.int .i64 par,.int .i64 r0,.int .i64 r1,.int .i64 r2,.int .i64 r3,.int .i64 r4,.int .i64 r5,.int .i64 r6,.int .i64 r7],.agg #[.int .i64 id2,.int .i64 kind2,.slice af2 fm.length cf2,.slice ap2 m.prog.length cp2,.int .i64 par2,.int .i64 s0,.int .i64 s1,.int .i64 s2,.int .i64 s3,.int .i64 s4,.int .i64 s5,.int .i64 s6,.int .i64 s7]] w _;by_cases hlen:fn.length=fm.length
 ·have hne:((fn.length:Int) != (fm.length:Int))=false:=by simp;omega
  have HLEN:=hY hlen;clear hlen;go_enter Tryz.func66,Tryz.ntmps66;go_wp2
  go_loopg [5] fn.length (fun gg z5 wr=>∃g:Nat,g≤fn.length∧fn.length-g≤gg∧z5 = .int .i64 g∧Hid (Grew w wr)∧Hid (wr.heap[w.heap.size]? = some (.cells #[.int .i64 id,.int .i64 kind,.slice af fn.length cf,.slice ap n.prog.length cp,.int .i64 par,.int .i64 r0,.int .i64 r1,.int .i64 r2,.int .i64 r3,.int .i64 r4,.int .i64 r5,.int .i64 r6,.int .i64 r7] 52))∧Hid (wr.heap[w.heap.size+1]? = some (.cells #[.int .i64 id2,.int .i64 kind2,.slice af2 fm.length cf2,.slice ap2 m.prog.length cp2,.int .i64 par2,.int .i64 s0,.int .i64 s1,.int .i64 s2,.int .i64 s3,.int .i64 s4,.int .i64 s5,.int .i64 s6,.int .i64 s7] 52))∧Hid (∀j (h1:j<fn.length) (h2:j<fm.length),j<g→fn[j]=fm[j]))
  case atStart=>exact⟨0,by omega,by omega,rfl,hY gw,hY (heap_alloc_old (heap_new_at w _ _ rfl) _),hY (heap_new_at _ _ _ (by rw[World.size_alloc])),hY fun j _ _ h=>by omega⟩
  case round =>
   obtain⟨g,hg8,hgg,rfl,HGR,HBX,HBY,HNO⟩:=hrel;have c0:=cell_of (o:=0) HBX.o;have d0:=cell_of (o:=0) HBY.o;have c1:=cell_of (o:=1) HBX.o;have d1:=cell_of (o:=1) HBY.o;have c2:=cell_of (o:=2) HBX.o;have d2:=cell_of (o:=2) HBY.o;have c3:=cell_of (o:=3) HBX.o;have d3:=cell_of (o:=3) HBY.o;have c4:=cell_of (o:=4) HBX.o;have d4:=cell_of (o:=4) HBY.o;have c5:=cell_of (o:=5) HBX.o;have d5:=cell_of (o:=5) HBY.o;have c6:=cell_of (o:=6) HBX.o;have d6:=cell_of (o:=6) HBY.o;have c7:=cell_of (o:=7) HBX.o;have d7:=cell_of (o:=7) HBY.o;have c8:=cell_of (o:=8) HBX.o;have d8:=cell_of (o:=8) HBY.o;have c9:=cell_of (o:=9) HBX.o;have d9:=cell_of (o:=9) HBY.o;have c10:=cell_of (o:=10) HBX.o;have d10:=cell_of (o:=10) HBY.o;have c11:=cell_of (o:=11) HBX.o;have d11:=cell_of (o:=11) HBY.o;have c12:=cell_of (o:=12) HBX.o;have d12:=cell_of (o:=12) HBY.o;have px:=Pre.mk (heap_lt HBX.o);have py:=Pre.mk (heap_lt HBY.o);simp at c0 d0 c1 d1 c2 d2 c3 d3 c4 d4 c5 d5 c6 d6 c7 d7 c8 d8 c9 d9 c10 d10 c11 d11 c12 d12;by_cases hlt:g<fn.length
   ·obtain⟨af',cf',e,hfb,hx⟩:=ints_open (HF.o.grew HGR.o);cases e;obtain⟨bf,offf,rfl,hpf,cx⟩:=hx g hlt;obtain⟨af3,cf3,e,-,hy⟩:=ints_open (HF2.o.grew HGR.o);cases e;have hlt2:g<fm.length:=by have:=HLEN.o;omega
    obtain⟨bg,offg,rfl,hpg,cy⟩:=hy g hlt2;have hmeas:fn.length-(g+1)<fn.length-g:=by omega
    have hg1:g+1≤fn.length:=hlt;have HMEAS:=hY (And.intro hmeas hg1);clear hmeas hg1 hx hy c0 d0 c1 d1 c3 d3 c4 d4 c5 d5 c6 d6 c7 d7 c8 d8 c9 d9 c10 d10 c11 d11 c12 d12;by_cases hxy:fn[g]=fm[g]
    ·have HXYZ:=hY hxy;rw[←hxy] at cy;clear hxy;generalize hgx:fn[g]=x at *;have HGX:=hY hgx;clear hgx
     go_wp2_with fail
     go_quiet (fail)
     go_wp2
     go_roundg (fn.length-(g+1))
     case measure=>(have:=HMEAS.o;omega)
     case rel=>exact⟨g+1,HMEAS.o.2,Nat.le_refl _,by go_num,hY (HGR.o.trans gw),hY (grew_heap gw HBX.o),hY (grew_heap gw HBY.o),hY fun j h1 h2 h=>by
      rcases Nat.lt_or_ge j g with h3|h3
      ·exact HNO.o j h1 h2 h3
      ·obtain rfl:j=g:=by omega
       rw[HGX.o]
       exact HXYZ.o⟩
    ·have hno:eqNd n m=false:=eqNd_false fun h=>hxy (by
      have:=HFN.o.trans ((congrArg Gr.Nd.frm h).trans HFM.o.symm);subst this
      rfl)
     have HNO2:=hY hno;have hxb:(fn[g] != fm[g])=true:=by rw[bne_iff_ne];exact hxy
     clear hno hxy;generalize fn[g]=x at *;generalize fm[g]=y at *
     go_wp2_with fail
     go_quiet (fail)
     go_wp2;go_ret;exact⟨by rw[HNO2.o];rfl,HGR.o.trans gw⟩
   ·obtain rfl:g=fn.length:=by omega
    have hff:fn=fm:=List.ext_getElem HLEN.o fun j h1 h2=>HNO.o j h1 h2 h1
    have HFF:=hY (HFN.o.symm.trans (hff.trans HFM.o));clear hff;by_cases i0:id=id2
    ·by_cases k0:kind=kind2
     ·by_cases p0:par=par2
      ·by_cases r0e:([r0,r1,r2,r3,r4,r5,r6,r7]:List Int)=[s0,s1,s2,s3,s4,s5,s6,s7]
       ·have hR:=hY r0e;have h8:=fun W=>(H8.o W).trans (by rw[decide_eq_true r0e])
        have hdec:eqNd n m=decide (n.prog=m.prog):=by
         refine eqNd_iff ⟨fun h=>by rw[h],fun h=>?_⟩;obtain⟨a1,a2,a3,a4,a5,a6⟩:=n;obtain⟨b1,b2,b3,b4,b5,b6⟩:=m;have q1:=E1.o;have q2:=G1.out;have q3:=E2.o;have q4:=G2.out;have q5:=E3.o;have q6:=G3.out;have q7:=E4.o;have q8:=G4.out;have q9:=HFF.o;simp only at q1 q2 q3 q4 q5 q6 q7 q8 q9 h;rw[q1,q2,q3,q4,q5,q6,q7,q8,q9,h,i0,k0,p0,r0e]
        have HDEC:=hY hdec;subst i0 k0 p0;clear hdec r0e;generalize decide (n.prog=m.prog)=q at *
        go_wp2_with (go_at_call 127;refine(HS.o _ (HGR.o.trans gw)).mono ?_;rintro e w2 ⟨rfl,R5,n5,rfl⟩)
        go_ret;exact⟨by rw[HDEC.o];rfl,HGR.o.trans gw⟩
       ·have h8:=fun W=>(H8.o W).trans (by rw[decide_eq_false r0e])
        subst i0 k0 p0;have hno:eqNd n m=false:=eqNd_false fun h=>r0e (E4.o.symm.trans ((congrArg Gr.Nd.route h).trans G4.out))
        have HNO2:=hY hno;clear hno;clear r0e;go_wp2;go_ret;exact⟨by rw[HNO2.o];rfl,HGR.o⟩
      ·subst i0 k0;have p0b:(par==par2)=false:=by simpa using p0
       have hno:eqNd n m=false:=eqNd_false fun h=>p0 (E3.o.symm.trans ((congrArg Gr.Nd.par h).trans G3.out))
       have HNO2:=hY hno;clear hno;clear p0;go_wp2;go_ret;exact⟨by rw[HNO2.o];rfl,HGR.o⟩
     ·subst i0;have k0b:(kind==kind2)=false:=by simpa using k0
      have hno:eqNd n m=false:=eqNd_false fun h=>k0 (E2.o.symm.trans ((congrArg Gr.Nd.kind h).trans G2.out))
      have HNO2:=hY hno;clear hno;clear k0;go_wp2;go_ret;exact⟨by rw[HNO2.o];rfl,HGR.o⟩
    ·have i0b:(id==id2)=false:=by simpa using i0
     have hno:eqNd n m=false:=eqNd_false fun h=>i0 (E1.o.symm.trans ((congrArg Gr.Nd.id h).trans G1.out))
     have HNO2:=hY hno;clear hno;clear i0;go_wp2;go_ret;exact⟨by rw[HNO2.o];rfl,HGR.o⟩
 ·have hne:((fn.length:Int) != (fm.length:Int))=true:=by rw[bne_iff_ne];omega
  have hno:eqNd n m=false:=eqNd_false fun h=>hlen (by
   have:=HFN.o.trans ((congrArg Gr.Nd.frm h).trans HFM.o.symm)
   rw[this])
  rw[hno];clear hno hlen;go_enter Tryz.func66,Tryz.ntmps66;go_wp2;go_ret;refine⟨rfl,?_⟩;exact gw
theorem alike_any(c d:NdC)(n m:Gr.Nd)(w:World)(hn:NodeIs w c n)(hm:NodeIs w d m): Calls Tryz.prog 56 #[.agg #[.int .i64 c.id,.int .i64 c.kind,.slice c.af c.nf c.cf,.slice c.ap c.np c.cp,.int .i64 c.par,.int .i64 c.r0,.int .i64 c.r1,.int .i64 c.r2,.int .i64 c.r3,.int .i64 c.r4,.int .i64 c.r5,.int .i64 c.r6,.int .i64 c.r7],.agg #[.int .i64 d.id,.int .i64 d.kind,.slice d.af d.nf d.cf,.slice d.ap d.np d.cp,.int .i64 d.par,.int .i64 d.r0,.int .i64 d.r1,.int .i64 d.r2,.int .i64 d.r3,.int .i64 d.r4,.int .i64 d.r5,.int .i64 d.r6,.int .i64 d.r7]] w (Gives (.bool (eqNd n m)) w):=by
 have HF:=hY fun W (g:Grew w W)=>eqInts_any _ _ n.frm m.frm W (hn.f.grew g) (hm.f.grew g)
 have HP:=hY fun W (g:Grew w W)=>eqVals_any _ _ n.prog m.prog W (hn.p.grew g) (hm.p.grew g)
 obtain⟨id,kind,af,cf,ap,cp,par,r0,r1,r2,r3,r4,r5,r6,r7,rfl⟩:=hn.lit;obtain⟨id2,kind2,af2,cf2,ap2,cp2,par2,s0,s1,s2,s3,s4,s5,s6,s7,rfl⟩:=hm.lit;have e1:=hn.id;have e2:=hn.kind;have e3:=hn.par;have e4:=hn.route;have g1:=hm.id;have g2:=hm.kind;have g3:=hm.par;have g4:=hm.route;simp only at e1 e2 e3 e4 g1 g2 g3 g4 HF HP
 have heq:eqNd n m=(decide (id=id2)&&(decide (kind=kind2)&&(decide (par=par2)&&(decide ([r0,r1,r2,r3,r4,r5,r6,r7]=[s0,s1,s2,s3,s4,s5,s6,s7])&&(decide (n.frm=m.frm)&&decide (n.prog=m.prog)))))):=by
  obtain⟨i1,k1,f1,p1,q1,t1⟩:=n;obtain⟨i2,k2,f2,p2,q2,t2⟩:=m;simp only at e1 e2 e3 e4 g1 g2 g3 g4;subst e1 e2 e3 e4 g1 g2 g3 g4;rw[←Bool.decide_and,←Bool.decide_and,←Bool.decide_and,←Bool.decide_and,←Bool.decide_and];exact eqNd_iff (by simp only[Gr.Nd.mk.injEq];exact⟨fun⟨h1,h2,h3,h4,h5,h6⟩=>⟨h1,h2,h5,h6,h3,h4⟩,fun⟨h1,h2,h3,h4,h5,h6⟩=>⟨h1,h2,h5,h6,h3,h4⟩⟩)
 have HEQ:=hY heq;have h8:=eq8 r0 r1 r2 r3 r4 r5 r6 r7 s0 s1 s2 s3 s4 s5 s6 s7;have hfl:n.frm.length≤9223372036854775807:=by obtain⟨_,_,_,h,_⟩:=ints_open hn.f;exact h
 have hpl:n.prog.length≤9223372036854775807:=by obtain⟨_,_,_,h,_⟩:=hn.p.open2;exact h
 clear hn hm e1 e2 e3 e4 g1 g2 g3 g4 heq;generalize hq8:decide ([r0,r1,r2,r3,r4,r5,r6,r7]=[s0,s1,s2,s3,s4,s5,s6,s7])=b8 at *;generalize hqf:decide (n.frm=m.frm)=bf at *;generalize hqp:decide (n.prog=m.prog)=bp at *;clear hq8 hqf hqp;generalize n.frm.length=nf at *;generalize m.frm.length=mf at *;generalize n.prog.length=np at *;generalize m.prog.length=mp at *;generalize eqNd n m=q at *;by_cases h1:id=id2
 case neg =>
  have hq:q=false:=by rw[HEQ.o,decide_eq_false h1];simp
  have HQ:=hY hq;have h1b:(id==id2)=false:=by simpa using h1
  clear h1 hq;go_enter Tryz.func56,Tryz.ntmps56
  go_wp2_with (first
  | (go_at_call 69;refine(HF.o _ gw).mono ?_;rintro e w1 ⟨rfl,R1,n1,rfl⟩)
  | (go_at_call 118;refine(HP.o _ gw).mono ?_;rintro e w1 ⟨rfl,R2,n2,rfl⟩))
  go_ret;exact⟨by rw[HQ.o];rfl,gw⟩
 subst h1;by_cases h2:kind=kind2
 case neg =>
  have hq:q=false:=by rw[HEQ.o,decide_eq_false h2];simp
  have HQ:=hY hq;have h2b:(kind==kind2)=false:=by simpa using h2
  clear h2 hq;go_enter Tryz.func56,Tryz.ntmps56
  go_wp2_with (first
  | (go_at_call 69;refine(HF.o _ gw).mono ?_;rintro e w1 ⟨rfl,R1,n1,rfl⟩)
  | (go_at_call 118;refine(HP.o _ gw).mono ?_;rintro e w1 ⟨rfl,R2,n2,rfl⟩))
  go_ret;exact⟨by rw[HQ.o];rfl,gw⟩
 subst h2;by_cases h3:par=par2
 case neg =>
  have hq:q=false:=by rw[HEQ.o,decide_eq_false h3];simp
  have HQ:=hY hq;have h3b:(par==par2)=false:=by simpa using h3
  clear h3 hq;go_enter Tryz.func56,Tryz.ntmps56
  go_wp2_with (first
  | (go_at_call 69;refine(HF.o _ gw).mono ?_;rintro e w1 ⟨rfl,R1,n1,rfl⟩)
  | (go_at_call 118;refine(HP.o _ gw).mono ?_;rintro e w1 ⟨rfl,R2,n2,rfl⟩))
  go_ret;exact⟨by rw[HQ.o];rfl,gw⟩
 subst h3;cases b8
 ·have hq:q=false:=by rw[HEQ.o];simp
  have HQ:=hY hq;clear hq;go_enter Tryz.func56,Tryz.ntmps56
  go_wp2_with (first
  | (go_at_call 69;refine(HF.o _ gw).mono ?_;rintro e w1 ⟨rfl,R1,n1,rfl⟩)
  | (go_at_call 118;refine(HP.o _ gw).mono ?_;rintro e w1 ⟨rfl,R2,n2,rfl⟩))
  go_ret;exact⟨by rw[HQ.o];rfl,gw⟩
 cases bf
 ·have hq:q=false:=by rw[HEQ.o];simp
  have HQ:=hY hq;clear hq;go_enter Tryz.func56,Tryz.ntmps56
  go_wp2_with (first
  | (go_at_call 69;refine(HF.o _ gw).mono ?_;rintro e w1 ⟨rfl,R1,n1,rfl⟩)
  | (go_at_call 118;refine(HP.o _ gw).mono ?_;rintro e w1 ⟨rfl,R2,n2,rfl⟩))
  go_ret;exact⟨by rw[HQ.o];rfl,gw⟩
 ·have hq:q=bp:=by rw[HEQ.o];simp
  have HQ:=hY hq;clear hq;go_enter Tryz.func56,Tryz.ntmps56
  go_wp2_with (first
  | (go_at_call 69;refine(HF.o _ gw).mono ?_;rintro e w1 ⟨rfl,R1,n1,rfl⟩)
  | (go_at_call 118;refine(HP.o _ gw).mono ?_;rintro e w1 ⟨rfl,R2,n2,rfl⟩))
  go_ret;exact⟨by rw[HQ.o];rfl,gw⟩
end Go.Proofs.YtipgfjihdglocaaGreat
