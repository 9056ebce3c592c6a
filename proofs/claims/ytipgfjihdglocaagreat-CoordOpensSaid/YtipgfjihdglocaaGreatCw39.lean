import Derived.Test.YtipgfjihdglocaaGreatCw37
import Derived.Test.YtipgfjihdglocaaGreatCw25
import Derived.Test.YtipgfjihdglocaaGreatCw27
set_option linter.unusedSimpArgs false
set_option linter.unusedVariables false
set_option maxRecDepth 100000
set_option maxHeartbeats 64000000
namespace Go.Proofs.YtipgfjihdglocaaGreat
open Go.RowKit Ga
theorem bes_append(a b:List Int): Oc.bes (a++b)=Oc.bes a++Oc.bes b:=by simp[Oc.bes]
theorem bes_en(x:Tab.En): Oc.bes [x.node,x.key,x.c0.1,x.c0.2,x.c1.1,x.c1.2]=Gr.putE x:=by
 simp[Oc.bes,Gr.putE,Gr.putV]
theorem bes_ln(x:Gr.Ln): Oc.bes [x.sink,x.frm,x.key,x.v.1,x.v.2]=Gr.putLn x:=by
 simp[Oc.bes,Gr.putLn,Gr.putV]
theorem putE_len(x:Tab.En): (Gr.putE x).length=24:=by rw[←bes_en,Oc.bes_len];rfl
theorem putLn_len(x:Gr.Ln): (Gr.putLn x).length=20:=by rw[←bes_ln,Oc.bes_len];rfl
theorem flat_lenE{α:Type}(f:α→List UInt8)(k:Nat)(h:∀x,(f x).length=k)(l:List α): (l.flatMap f).length=l.length*k:=by
 induction l with
 | nil=>simp
 | cons x l ih=>rw[List.flatMap_cons,List.length_append,h,ih,List.length_cons,Nat.add_one_mul];omega
theorem take_flatG{α β:Type}(f:α→List β)(l:List α)(k:Nat)(h:k<l.length): (l.take (k+1)).flatMap f=(l.take k).flatMap f++f l[k]:=by
 rw[List.take_succ_eq_append_getElem h,List.flatMap_append];simp
theorem fits_okV{v:Val}(h:rightV v=true): Oc.fitsN v.1=true∧Oc.fitsN v.2=true:=by
 have:=Gr.okV_of h;unfold Gr.okV at this;exact⟨fits_of (by omega) (by omega),fits_of (by omega) (by omega)⟩
theorem ents_fit{m:Gr.Mf}(h:Gr.RightM fitsP m): ∀x∈m.ents,[x.node,x.key,x.c0.1,x.c0.2,x.c1.1,x.c1.2].all Oc.fitsN=true:=by
 intro x hx;obtain⟨h1,h2,h3,h4,-⟩:=h.en x hx;obtain⟨f1,f2⟩:=fits_okV h3;obtain⟨f3,f4⟩:=fits_okV h4;simp only[List.all_cons,List.all_nil,f1,f2,f3,f4,Bool.and_true];rw[fits_of (by omega) (by omega),fits_of (by omega) (by omega)];rfl
theorem lns_fit{m:Gr.Mf}(h:Gr.RightM fitsP m): ∀x∈m.out,[x.sink,x.frm,x.key,x.v.1,x.v.2].all Oc.fitsN=true:=by
 intro x hx;obtain⟨h1,h2,h3,h4⟩:=h.ou x hx;obtain⟨f1,f2⟩:=fits_okV h4;simp only[List.all_cons,List.all_nil,f1,f2,Bool.and_true];rw[fits_of (by omega) (by omega),fits_of (by omega) (by omega),fits_of (by omega) (by omega)];rfl
theorem ents_512{m:Gr.Mf}(h:Gr.RightM fitsP m): m.ents.length≤512:=Gr.ents_len (fun x hx=>⟨(h.en x hx).1,(h.en x hx).2.1⟩) h.ei
theorem offs_len{m:Gr.Mf}(h:Gr.RightM fitsP m)(hr:∀n∈m.graph,n.route.length=8): 1≤m.offs.length∧m.offs.length≤3:=by
 obtain⟨n,hn,e⟩:=h.of;have hm:n∈m.graph:=List.mem_of_mem_head? hn;have hk:=right_okB h.gr hr n hm;have:=hk.r;omega
theorem graph_self{m:Gr.Mf}(h:Gr.RightM fitsP m): Gr.normG m.graph=m.graph:=Gr.norm_self (h.so.imp fun h=>by omega) h.gr.ids h.gr.r7
theorem apart_old{w W:World}{B:Nat}{v:Value}{l:List Int}(h:IntsAt w v l)(hl:l≠[])(hB:w.heap.size≤B): ∀b off,(∃n c,v = .slice (some ⟨b,off,none⟩) n c)→Safe w.heap.size b W∧b≠B:=by
 rintro b off ⟨n,c,rfl⟩;obtain⟨a,cap,e,-,hx⟩:=h;cases e;obtain⟨b',off',e,hc⟩:=hx hl;cases e
 obtain⟨x,hx0⟩:∃x,l[0]? = some x:=by
  cases l with
  | nil=>exact absurd rfl hl
  | cons x l=>exact⟨x,rfl⟩
 have hlt:=World.block_lt_of_cell? w _ (hc 0 x hx0 0 _ rfl);simp only at hlt;exact⟨.inl hlt,by omega⟩
def planBy(p:List Gr.Stp): List UInt8:=Gr.planB putI p
theorem planBy_nil:planBy []=[]:=by unfold planBy Gr.planB;simp
theorem planBy_ne{p:List Gr.Stp}(h:p≠[]): planBy p=Gr.putPl putI p:=by unfold planBy Gr.planB;rw[if_neg h]
theorem putM_eq(m:Gr.Mf): Gr.putM putI m=Oc.bes [m.epoch,m.plans,(m.offs.length:Int)]++Oc.bes m.offs++(Oc.be m.graph.length++m.graph.flatMap (Gr.putNd putI))++Oc.be m.ents.length++m.ents.flatMap Gr.putE++Oc.be m.out.length++m.out.flatMap Gr.putLn++(Oc.be (planBy m.plan).length++planBy m.plan):=by
 unfold Gr.putM Gr.putC Gr.putP;show _=_++(Oc.be (Gr.planB putI m.plan).length++Gr.planB putI m.plan);simp[Oc.bes]
theorem packMan_ok(c:MfC)(m:Gr.Mf)(w:World)(h:MfIs w c m)(hs:Small m.graph)(hp:∀s∈m.plan,s.nd.frm.length≤100∧s.nd.prog.length≤1000)(ho:m.out.length≤3000)(hr:Gr.RightM fitsP m): Calls Tryz.prog 36 #[.agg #[.int .i64 c.epoch,.int .i64 c.plans,.slice c.ao c.no c.co,.slice c.ag c.ng c.cg,.slice c.ae c.ne c.ce,.slice c.ax c.nx c.cx,.slice c.ap c.np c.cp]] w (Gives (.tuple #[str (Gr.putM putI m),.int .i64 0]) w):=by
 have h8:=nodes_route h.g;have he512:=ents_512 hr;obtain⟨ho1,ho3⟩:=offs_len hr h8;have hR:=fun W (g:Grew w W)=>manRight_any c m W (h.grew g) hs hp (by omega)
 rw[rightB_iff.2 hr] at hR;have HR:=hY hR;have HEF:=hY (ents_fit hr);have HLF:=hY (lns_fit hr);have HOF:Hid (m.offs.all Oc.fitsN=true):=hY (by rw[List.all_eq_true];intro x hx;have:=hr.o4 x hx;exact fits_of (by omega) (by omega));have HEP:=hY hr.ep;have HPL:=hY hr.pl;have HGRR:=hY hr.gr;have HGS:=hY (graph_self hr);have HPN:=hY (show m.plan=[]∨Gr.OkPl fitsP m.plan from hr.pn.imp id fun q=>q.1);have HEQ:=hY (putM_eq m);have HS:=hY hs;have HPS:=hY hp;have e1:=h.epoch;have e2:=h.plans;have HO:=hY h.o;have HG:=hY h.g;have HE:=hY h.e;have HX:=hY h.x;have HP:=hY h.p;have hgl:=hr.gr.len;have HGL:=hY (by have:=putG_len hr.gr h8;exact this:(Gr.putG putI m.graph).length≤3000);obtain⟨ep,pl,ao,co,ag,cg,ae,ce,ax,cx,ap,cp,rfl⟩:=h.lit;simp only at e1 e2 HO HG HE HX HP;rw[e1] at HEP HEQ;rw[e2] at HPL HEQ;clear h hs hp hr hR h8 e1 e2;show Calls Tryz.prog _ #[.agg #[.int .i64 ep,.int .i64 pl,.slice ao m.offs.length co,.slice ag m.graph.length cg,.slice ae m.ents.length ce,.slice ax m.out.length cx,.slice ap m.plan.length cp]] w _;have HBX0:=hY (heap_new_at w (.cells #[.int .i64 ep,.int .i64 pl,.slice ao m.offs.length co,.slice ag m.graph.length cg,.slice ae m.ents.length ce,.slice ax m.out.length cx,.slice ap m.plan.length cp] 47) _ rfl);go_enter Tryz.func36,Tryz.ntmps36
 go_wp2_with fail
 refine(HR.o _ gw).mono ?_;rintro e w1 ⟨rfl,R1,n1,rfl⟩
 go_wp2_with fail
 have HW0:Hid (WriterAt w.heap.size (w.heap.size+1+R1.size) (((w.alloc (.cells #[.int .i64 ep,.int .i64 pl,.slice ao m.offs.length co,.slice ag m.graph.length cg,.slice ae m.ents.length ce,.slice ax m.out.length cx,.slice ap m.plan.length cp] 47)).more R1 n1).alloc (.cells #[.slice none 0 0] 147)) (.slice none 0 0) []):=hY ⟨by omega,heap_new_at _ _ _ (by simp[go_sem]),OwnAt.nil _⟩;have HBXP:Hid ((((w.alloc (.cells #[.int .i64 ep,.int .i64 pl,.slice ao m.offs.length co,.slice ag m.graph.length cg,.slice ae m.ents.length ce,.slice ax m.out.length cx,.slice ap m.plan.length cp] 47)).more R1 n1).alloc (.cells #[.slice none 0 0] 147)).heap[w.heap.size]? = some (.cells #[.int .i64 ep,.int .i64 pl,.slice ao m.offs.length co,.slice ag m.graph.length cg,.slice ae m.ents.length ce,.slice ax m.out.length cx,.slice ap m.plan.length cp] 47)):=hY (grew_heap gw HBX0.o);have hneB:w.heap.size≠(w.heap.size+1+R1.size):=by omega
 have hB1:w.heap.size≤(w.heap.size+1+R1.size):=by omega
 refine(writerNum_freshK w (((w.alloc (.cells #[.int .i64 ep,.int .i64 pl,.slice ao m.offs.length co,.slice ag m.graph.length cg,.slice ae m.ents.length ce,.slice ax m.out.length cx,.slice ap m.plan.length cp] 47)).more R1 n1).alloc (.cells #[.slice none 0 0] 147)) (w.heap.size+1+R1.size) (.slice none 0 0) [] [ep,pl,(m.offs.length:Int)] [.int .i64 ep,.int .i64 pl,.int .i64 m.offs.length] _ _ _ HW0.o gw rfl ?_ rfl ?_ (by simp)).mono ?_
 ·simp[go_sem]
 ·have h1:=HEP.o;have h2:=HPL.o;simp only[List.all_cons,List.all_nil,Bool.and_true,Bool.and_eq_true];exact⟨fits_of (by omega) (by omega),fits_of (by omega) (by omega),fits_of (by omega) (by omega)⟩
 rintro e W1 ⟨rfl,hg1,hk1,vb1,hw1⟩;rw[List.nil_append] at hw1;have HW1:=hY hw1;have HG1:=hY hg1;have HBX1:=hY (hk1.cells HBXP.o hneB (by decide));clear hw1 hg1 hk1 HBXP;have x0:=cell_of (o:=0) HBX1.o;have x1:=cell_of (o:=1) HBX1.o;have x2:=cell_of (o:=2) HBX1.o;have x3:=cell_of (o:=3) HBX1.o;have x4:=cell_of (o:=4) HBX1.o;have x5:=cell_of (o:=5) HBX1.o;have x6:=cell_of (o:=6) HBX1.o;simp at x0 x1 x2 x3 x4 x5 x6;have px:=Pre.mk (heap_lt HBX1.o);have hne:m.offs≠[]:=fun e=>by rw[e] at ho1;simp at ho1
 have HNE:=hY hne;clear hne
 go_wp2_with fail
 refine(writerNum_keep w W1 (w.heap.size+1+R1.size) vb1 _ _ m.offs HW1.o HG1.o (HO.o.grew HG1.o) (apart_old HO.o HNE.o hB1) HOF.o (by simp only[Oc.bes_len,List.length_cons,List.length_nil];omega)).mono ?_;have HBXP:=HBX1;rintro e W2 ⟨rfl,hg2,hk2,vb2,hw2⟩;have HW2:=hY hw2;have HG2:=hY hg2;have HBX2:=hY (hk2.cells HBXP.o hneB (by decide));clear hw2 hg2 hk2 HBXP;clear x0 x1 x2 x3 x4 x5 x6 px;have x0:=cell_of (o:=0) HBX2.o;have x1:=cell_of (o:=1) HBX2.o;have x2:=cell_of (o:=2) HBX2.o;have x3:=cell_of (o:=3) HBX2.o;have x4:=cell_of (o:=4) HBX2.o;have x5:=cell_of (o:=5) HBX2.o;have x6:=cell_of (o:=6) HBX2.o;simp at x0 x1 x2 x3 x4 x5 x6;have px:=Pre.mk (heap_lt HBX2.o)
 go_wp2_with fail
 refine(putGraph_any w W2 (w.heap.size+1+R1.size) vb2 _ _ m.graph HW2.o HG2.o HG.o HS.o HGRR.o (by simp only[List.length_append,Oc.bes_len,List.length_cons,List.length_nil];omega)).mono ?_;have HBXP:=HBX2;rintro e W3 ⟨rfl,hg3,hk3,vb3,hw3⟩;have HW3:=hY hw3;have HG3:=hY hg3;have HBX3:=hY (hk3.cells HBXP.o hneB (by decide));clear hw3 hg3 hk3 HBXP;clear x0 x1 x2 x3 x4 x5 x6 px;have x0:=cell_of (o:=0) HBX3.o;have x1:=cell_of (o:=1) HBX3.o;have x2:=cell_of (o:=2) HBX3.o;have x3:=cell_of (o:=3) HBX3.o;have x4:=cell_of (o:=4) HBX3.o;have x5:=cell_of (o:=5) HBX3.o;have x6:=cell_of (o:=6) HBX3.o;simp at x0 x1 x2 x3 x4 x5 x6;have px:=Pre.mk (heap_lt HBX3.o)
 go_wp2_with fail
 refine(writerNum_freshK w W3 (w.heap.size+1+R1.size) vb3 _ [(m.ents.length:Int)] [.int .i64 m.ents.length] _ _ _ HW3.o HG3.o rfl ?_ rfl ?_ (by have:=HGL.o;simp only[List.length_append,Oc.bes_len,List.length_cons,List.length_nil];omega)).mono ?_
 ·simp[go_sem]
 ·simp only[List.all_cons,List.all_nil,Bool.and_true];exact fits_of (by omega) (by omega)
 have HBXP:=HBX3;rintro e W4 ⟨rfl,hg4,hk4,vb4,hw4⟩;rw[be_one] at hw4;have HW4:=hY hw4;have HG4:=hY hg4;have HBX4:=hY (hk4.cells HBXP.o hneB (by decide));clear hw4 hg4 hk4 HBXP;clear x0 x1 x2 x3 x4 x5 x6 px;have x0:=cell_of (o:=0) HBX4.o;have x1:=cell_of (o:=1) HBX4.o;have x2:=cell_of (o:=2) HBX4.o;have x3:=cell_of (o:=3) HBX4.o;have x4:=cell_of (o:=4) HBX4.o;have x5:=cell_of (o:=5) HBX4.o;have x6:=cell_of (o:=6) HBX4.o;simp at x0 x1 x2 x3 x4 x5 x6;have px:=Pre.mk (heap_lt HBX4.o);obtain⟨Y4,hY4⟩:∃Y,Oc.bes [ep,pl,(m.offs.length:Int)]++Oc.bes m.offs++Gr.putG putI m.graph++Oc.be m.ents.length=Y:=⟨_,rfl⟩;have HY4:=hY hY4;have hl4:Y4.length≤3028:=by rw[←hY4];have:=HGL.o;simp only[List.length_append,Oc.bes_len,Oc.be_len,List.length_cons,List.length_nil];omega
 rw[hY4] at HW4;clear hY4;go_wp2
 go_loopg [36] m.ents.length (fun gg s36 wr=>∃(k:Nat) (vk:Value),k≤m.ents.length∧m.ents.length-k≤gg∧s36 = .int .i64 k∧Hid (WriterAt w.heap.size (w.heap.size+1+R1.size) wr vk (Y4++(m.ents.take k).flatMap Gr.putE))∧Hid (Grew w wr)∧Hid (wr.heap[w.heap.size]? = some (.cells #[.int .i64 ep,.int .i64 pl,.slice ao m.offs.length co,.slice ag m.graph.length cg,.slice ae m.ents.length ce,.slice ax m.out.length cx,.slice ap m.plan.length cp] 47)))
 case atStart=>exact⟨0,vb4,by omega,by omega,rfl,hY (by have:=HW4.o;simpa using this),HG4,HBX4⟩
 case round =>
  obtain⟨k,vk,hk,hgg,rfl,HWK,HGK,HBXK⟩:=hrel;clear x0 x1 x2 x3 x4 x5 x6 px;by_cases hlt:k<m.ents.length
  ·obtain⟨a',cap',e,-,hx⟩:=EntsAt.open6 (HE.o.grew HGK.o);cases e;obtain⟨b,off,rfl,hb,c0,c1,c2,c3,c4,c5⟩:=hx k hlt;have HTF:=hY (take_flatG Gr.putE m.ents k hlt);have HFX:=hY (HEF.o _ (List.getElem_mem hlt));have hfl:=flat_lenE Gr.putE 24 putE_len (m.ents.take k);rw[List.length_take,Nat.min_eq_left hk] at hfl;have HFL:=hY hfl;clear hx hfl;generalize m.ents[k]=x at *;obtain⟨nd,ky,⟨p0,q0⟩,⟨p1,q1⟩⟩:=x;simp only at c0 c1 c2 c3 c4 c5 HFX
   go_wp2_with fail
   refine(writerNum_freshK w (wr.alloc (.cells #[.int .i64 nd,.int .i64 ky,.int .i64 p0,.int .i64 q0,.int .i64 p1,.int .i64 q1] 115)) (w.heap.size+1+R1.size) vk _ [nd,ky,p0,q0,p1,q1] [.int .i64 nd,.int .i64 ky,.int .i64 p0,.int .i64 q0,.int .i64 p1,.int .i64 q1] _ _ _ (HWK.o.grew gw) (HGK.o.trans gw) rfl ?_ rfl HFX.o (by have:=HFL.o;simp only[List.length_append,List.length_cons,List.length_nil];omega)).mono ?_
   ·simp[go_sem]
   rintro e W5 ⟨rfl,hg5,hk5,vb5,hw5⟩;have HW5:=hY hw5;have HG5:=hY hg5;have HBX5:=hY (hk5.cells (grew_heap gw HBXK.o) hneB (by decide));clear hw5 hg5 hk5;go_wp2
   go_roundg (m.ents.length-(k+1))
   case measure=>omega
   case rel=>exact⟨k+1,vb5,by omega,by omega,by go_num,hY (by rw[HTF.o,←List.append_assoc,←bes_en];exact HW5.o),HG5,HBX5⟩
  ·obtain rfl:k=m.ents.length:=by omega
   rw[List.take_length] at HWK;have hl5:=flat_lenE Gr.putE 24 putE_len m.ents;have HL5:=hY hl5;clear hl5;have x0:=cell_of (o:=0) HBXK.o;have x1:=cell_of (o:=1) HBXK.o;have x2:=cell_of (o:=2) HBXK.o;have x3:=cell_of (o:=3) HBXK.o;have x4:=cell_of (o:=4) HBXK.o;have x5:=cell_of (o:=5) HBXK.o;have x6:=cell_of (o:=6) HBXK.o;simp at x0 x1 x2 x3 x4 x5 x6;have px:=Pre.mk (heap_lt HBXK.o)
   go_wp2_with fail
   refine(writerNum_freshK w wr (w.heap.size+1+R1.size) vk _ [(m.out.length:Int)] [.int .i64 m.out.length] _ _ _ HWK.o HGK.o rfl ?_ rfl ?_ (by have:=HL5.o;simp only[List.length_append,List.length_cons,List.length_nil];omega)).mono ?_
   ·simp[go_sem]
   ·simp only[List.all_cons,List.all_nil,Bool.and_true];exact fits_of (by omega) (by omega)
   rintro e W6 ⟨rfl,hg6,hk6,vb6,hw6⟩;rw[be_one] at hw6;have HW6:=hY hw6;have HG6:=hY hg6;have HBX6:=hY (hk6.cells HBXK.o hneB (by decide));obtain⟨Y6,hY6⟩:∃Y,Y4++m.ents.flatMap Gr.putE++Oc.be m.out.length=Y:=⟨_,rfl⟩;have HY6:=hY hY6;have hl6:Y6.length≤15400:=by rw[←hY6];have:=HL5.o;simp only[List.length_append,Oc.be_len];omega
   rw[hY6] at HW6;clear hw6 hg6 hk6 hY6 x0 x1 x2 x3 x4 x5 x6 px;have x0:=cell_of (o:=0) HBX6.o;have x1:=cell_of (o:=1) HBX6.o;have x2:=cell_of (o:=2) HBX6.o;have x3:=cell_of (o:=3) HBX6.o;have x4:=cell_of (o:=4) HBX6.o;have x5:=cell_of (o:=5) HBX6.o;have x6:=cell_of (o:=6) HBX6.o;simp at x0 x1 x2 x3 x4 x5 x6;have px:=Pre.mk (heap_lt HBX6.o);go_wp2
   go_loopg [71] m.out.length (fun gg s71 wq=>∃(k:Nat) (vk:Value),k≤m.out.length∧m.out.length-k≤gg∧s71 = .int .i64 k∧Hid (WriterAt w.heap.size (w.heap.size+1+R1.size) wq vk (Y6++(m.out.take k).flatMap Gr.putLn))∧Hid (Grew w wq)∧Hid (wq.heap[w.heap.size]? = some (.cells #[.int .i64 ep,.int .i64 pl,.slice ao m.offs.length co,.slice ag m.graph.length cg,.slice ae m.ents.length ce,.slice ax m.out.length cx,.slice ap m.plan.length cp] 47)))
   case atStart=>exact⟨0,vb6,by omega,by omega,rfl,hY (by have:=HW6.o;simpa using this),HG6,HBX6⟩
   case round =>
    obtain⟨k,vk,hk,hgg,rfl,HWK,HGK,HBXK⟩:=hrel;clear x0 x1 x2 x3 x4 x5 x6 px;by_cases hlt:k<m.out.length
    ·obtain⟨a',cap',e,-,hx⟩:=LnsAt.open5 (HX.o.grew HGK.o);cases e;obtain⟨b,off,rfl,hb,c0,c1,c2,c3,c4⟩:=hx k hlt;have HTF:=hY (take_flatG Gr.putLn m.out k hlt);have HFX:=hY (HLF.o _ (List.getElem_mem hlt));have hfl:=flat_lenE Gr.putLn 20 putLn_len (m.out.take k);rw[List.length_take,Nat.min_eq_left hk] at hfl;have HFL:=hY hfl;clear hx hfl;generalize m.out[k]=x at *;obtain⟨si,fr,ky,⟨p0,q0⟩⟩:=x;simp only at c0 c1 c2 c3 c4 HFX
     go_wp2_with fail
     refine(writerNum_freshK w (wr.alloc (.cells #[.int .i64 si,.int .i64 fr,.int .i64 ky,.int .i64 p0,.int .i64 q0] 122)) (w.heap.size+1+R1.size) vk _ [si,fr,ky,p0,q0] [.int .i64 si,.int .i64 fr,.int .i64 ky,.int .i64 p0,.int .i64 q0] _ _ _ (HWK.o.grew gw) (HGK.o.trans gw) rfl ?_ rfl HFX.o (by have:=HFL.o;simp only[List.length_append,List.length_cons,List.length_nil];omega)).mono ?_
     ·simp[go_sem]
     rintro e W7 ⟨rfl,hg7,hk7,vb7,hw7⟩;have HW7:=hY hw7;have HG7:=hY hg7;have HBX7:=hY (hk7.cells (grew_heap gw HBXK.o) hneB (by decide));clear hw7 hg7 hk7;go_wp2
     go_roundg (m.out.length-(k+1))
     case measure=>omega
     case rel=>exact⟨k+1,vb7,by omega,by omega,by go_num,hY (by rw[HTF.o,←List.append_assoc,←bes_ln];exact HW7.o),HG7,HBX7⟩
    ·obtain rfl:k=m.out.length:=by omega
     rw[List.take_length] at HWK;have hl7:=flat_lenE Gr.putLn 20 putLn_len m.out;have hl8:(Y6++m.out.flatMap Gr.putLn).length≤75400:=by rw[List.length_append];omega
     clear hl7
     have HFIN:Hid (∀t,t=planBy m.plan→Y6++m.out.flatMap Gr.putLn++(Oc.be t.length++t)=Gr.putM putI m):=hY fun t ht=>by
      subst ht;rw[HEQ.o,←HY6.o,←HY4.o];unfold Gr.putG;rw[HGS.o]
     generalize Y6++m.out.flatMap Gr.putLn=Y8 at *;have x0:=cell_of (o:=0) HBXK.o;have x1:=cell_of (o:=1) HBXK.o;have x2:=cell_of (o:=2) HBXK.o;have x3:=cell_of (o:=3) HBXK.o;have x4:=cell_of (o:=4) HBXK.o;have x5:=cell_of (o:=5) HBXK.o;have x6:=cell_of (o:=6) HBXK.o;simp at x0 x1 x2 x3 x4 x5 x6;have px:=Pre.mk (heap_lt HBXK.o);by_cases hp0:m.plan=[]
     ·have hz:¬(0:Int)<(m.plan.length:Int):=by rw[hp0];simp
      have HT0:=hY (HFIN.o [] (by rw[hp0,planBy_nil]));clear hp0
      go_wp2_with (first
       | (go_at_call 93;refine(octText_any w _ (w.heap.size+1+R1.size) vk Y8 [] HWK.o HGK.o (by simp;omega)).mono ?_;rintro e W9 ⟨rfl,hg9,hk9,vb9,hw9⟩;(have HW9:=hY hw9);(have HG9:=hY hg9);clear hw9 hg9 hk9)
       | (go_at_call 94;refine(octOut_any _ _ _ _ _ HW9.o (by rw[List.length_append];simp[Oc.be_len];omega)).mono ?_;rintro e W10 ⟨rfl,R10,n10,rfl⟩;rw[HT0.o]))
      exact bodyPost_ret (v:=.tuple #[.string ⟨(Gr.putM putI m).toArray⟩,.int .i64 0]) (by simp[results,Tryz.results36,go_sem]) rfl ⟨rfl,HG9.o.trans gw⟩
     ·have hz:(0:Int)<(m.plan.length:Int):=by
       have:m.plan.length≠0:=fun e=>hp0 (List.eq_nil_of_length_eq_zero e)
       omega
      have hok:=HPN.o.resolve_left hp0;have HT0:=hY (HFIN.o (Gr.putPl putI m.plan) (by rw[planBy_ne hp0]));have HPP:=hY fun W (g:Grew w W)=>putPlan_any _ m.plan W (HP.o.grew g) HPS.o hok.2.1
      have HOK:=hY hok;clear hp0 hok
      go_wp2_with fail
      refine(HPP.o _ HGK.o).mono ?_;rintro e W9 ⟨t,rfl,ht1,ht2,R9,n9,rfl⟩;obtain rfl:=ht2 HOK.o;generalize Gr.putPl putI m.plan=t at *;clear ht2
      go_wp2_with (first
       | (go_at_call 93;refine(octText_any w _ (w.heap.size+1+R1.size) vk Y8 t (HWK.o.grew gw) (HGK.o.trans gw) (by omega)).mono ?_;rintro e W9 ⟨rfl,hg9,hk9,vb9,hw9⟩;(have HW9:=hY hw9);(have HG9:=hY hg9);clear hw9 hg9 hk9)
       | (go_at_call 94;refine(octOut_any _ _ _ _ _ HW9.o (by simp only[List.length_append,Oc.be_len];omega)).mono ?_;rintro e W10 ⟨rfl,R10,n10,rfl⟩;rw[HT0.o]))
      exact bodyPost_ret (v:=.tuple #[.string ⟨(Gr.putM putI m).toArray⟩,.int .i64 0]) (by simp[results,Tryz.results36,go_sem]) rfl ⟨rfl,HG9.o.trans gw⟩
end Go.Proofs.YtipgfjihdglocaaGreat
