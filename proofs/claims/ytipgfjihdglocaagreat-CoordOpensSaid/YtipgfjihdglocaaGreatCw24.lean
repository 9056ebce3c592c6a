import Derived.Test.YtipgfjihdglocaaGreatCw19
import Derived.Test.YtipgfjihdglocaaGreatCw18
import Derived.Deep.LoopGhost
set_option linter.unusedSimpArgs false
set_option linter.unusedVariables false
set_option maxRecDepth 100000
set_option maxHeartbeats 64000000
namespace Go.Proofs.YtipgfjihdglocaaGreat
open Go.RowKit Ga
theorem clean49_1(id kd par r0 r1 r2 r3 r4 r5 r6 r7:Int)(af ap:Option Addr)(nf cf np cp:Nat)(reset:Bool)(s:Gr.Stp)(w:World)(hn:StepIs w ⟨1,⟨id,kd,af,nf,cf,ap,np,cp,par,r0,r1,r2,r3,r4,r5,r6,r7⟩,reset⟩ s)(hs:s.nd.frm.length≤1000∧s.nd.prog.length≤1000): Calls Tryz.prog 105 #[.agg #[.int .i64 1,.int .i64 id,.int .i64 kd,.slice af nf cf,.slice ap np cp,.int .i64 par,.int .i64 r0,.int .i64 r1,.int .i64 r2,.int .i64 r3,.int .i64 r4,.int .i64 r5,.int .i64 r6,.int .i64 r7,.bool reset]] w (CleanGives (Gr.cleanS s) w):=by
 have hcl:=hn.clean;have HCL:=hY hcl;have HN:=hY hn;have H1:=hY fun W (g:Grew w W)=>cloneInts_any _ s.nd.frm W (HN.o.nd.f.grew g) hs.1
 have H2:=hY fun W (g:Grew w W)=>cloneVals_any _ s.nd.prog W (HN.o.nd.p.grew g) hs.2
 have HND:=hY hn.nd;have HS:=hY hs;have HK:=hY hn.kind;clear hn hcl hs;go_enter Tryz.func105,Tryz.ntmps105
 go_upto_region 6 with fail
 go_region_held3 (fun w'=>w'.cell? ⟨w.heap.size+1+1,0,none⟩=some (.int .i64 id)∧w'.cell? ⟨w.heap.size+1+1,3,none⟩=some (.slice ap np cp)∧w'.cell? ⟨w.heap.size,14,none⟩=some (.bool reset)) ((refine⟨?_,?_,?_⟩<;>simp[go_sem])) (first
  | (go_simp;go_at_call 153;refine(H2.o _ gw).mono ?_;rintro e w1 ⟨v1,rfl,ho1,R3,n3,rfl⟩;obtain⟨a1,c1,rfl⟩:=(ho1.rows encI_len).len;(have HO1:=hY ho1);clear ho1))
 all_goals
  go_wp2;refine bodyPost_ret (res_clean49 rfl (grew_heap ((Grew.refl _).more _ _) (heap_alloc' (heap_alloc' (heap_new_at (w.alloc _) _ _ (by simp[World.size_alloc])) _) _))) rfl ?_;refine clean_made1 HN.o (OwnAt.low (OwnAt.same HO1.o fun b hb=>heap_more_same (by simp[World.size_alloc]) _ _ _ (by have:=HO1.o.lt b hb;simp[World.size_alloc] at this ⊢;omega)) (by simp[World.size_alloc];omega)) gw
theorem writerNum_bad(base:Nat)(W:World)(B:Nat)(vb:Value)(bs:List UInt8)(v:Value)(l:List Int)(_hw:WriterAt base B W vb bs)(hv:RowsAt 1 encN W v l)(hok:l.all Oc.fitsN=false):
  Calls Tryz.prog 91 #[.pointer (some ⟨B,0,none⟩),v] W fun e W'=>e = .returned (.int .i64 2)∧W'=W:=by
 obtain⟨a,cap,rfl,hm,hl⟩:=hv.open1;have HL:=hY hl;have HOK:=hY hok;clear hv hok hl _hw;go_enter Tryz.func91,Tryz.ntmps91;go_wp2
 go_loopg [14] l.length (fun gg i wr=>∃(k:Nat),k≤l.length∧l.length-k≤gg∧i = .int .i64 k∧wr=W∧Hid (∀x∈l.take k,Oc.fitsN x=true))
 case atStart=>exact⟨0,Nat.zero_le _,by omega,rfl,rfl,hY fun x hx=>by simp at hx⟩
 case round =>
  obtain⟨k,hk,hgg,rfl,rfl,HNO⟩:=hrel;by_cases hlt:k<l.length
  ·obtain⟨b,off,rfl,hb,hx⟩:=HL.o k hlt;have HTK:=hY (List.take_succ_eq_append_getElem hlt);generalize l[k]=x at *;cases hf:Oc.fitsN x
   ·have HF:=hY hf;clear hf
    go_wp2_with (go_at_call 146;refine(octFits_any _ _).mono ?_;rintro e w1 ⟨rfl,rfl⟩;rw[HF.o])
    go_ret;exact⟨rfl,rfl⟩
   ·have HF:=hY hf;clear hf
    go_wp2_with (go_at_call 146;refine(octFits_any _ _).mono ?_;rintro e w1 ⟨rfl,rfl⟩;rw[HF.o])
    go_roundg (l.length-(k+1))
    case measure=>omega
    case rel=>exact⟨k+1,by omega,by omega,by go_num,rfl,hY fun y hy=>by
     rw[HTK.o,List.mem_append,List.mem_singleton] at hy;rcases hy with hy|rfl
     ·exact HNO.o y hy
     ·exact HF.o⟩
  ·obtain rfl:k=l.length:=by omega
   have h1:=HNO.o;rw[List.take_length] at h1;have h2:=HOK.o;rw[List.all_eq_true.2 h1] at h2;cases h2
theorem codePut_bad(W:World)(B:Nat)(v:Value)(l:List Val)(hv:ValsAt W v l)(hf:Co.fitsI l=false): Calls Tryz.prog 154 #[.pointer (some ⟨B,0,none⟩),v] W (Gives (.int .i64 1) W):=by
 obtain⟨a,cap,rfl,hm,-⟩:=hv.open2;have HV:=hY hv;have HF:=hY hf;clear hv hf;go_enter Tryz.func154,Tryz.ntmps154
 go_wp2_with (go_at_call 191;refine(codeFits_any _ l _ (HV.o.grew gw)).mono ?_;rintro e w1 ⟨rfl,R3,n3,rfl⟩;rw[HF.o])
 go_ret;refine⟨rfl,?_⟩;exact gw
def PutSome(w0 W:World)(B:Nat)(bs:List UInt8)(n:Nat)(e:Ending)(W':World): Prop:=∃x,e = .returned (.int .i64 x)∧Grew w0 W'∧KeptW w0.heap.size B W W'∧∃vb' zs,zs.length≤n∧WriterAt w0.heap.size B W' vb' (bs++zs)
theorem writerNum_some(w0 W:World)(B:Nat)(vb:Value)(bs:List UInt8)(v:Value)(l:List Int)(hw:WriterAt w0.heap.size B W vb bs)(hg:Grew w0 W)(hv:RowsAt 1 encN W v l)
  (hs:∀b off,(∃n c,v = .slice (some ⟨b,off,none⟩) n c)→Safe w0.heap.size b W∧b≠B) (hlen:bs.length+l.length*4≤100000) :
  Calls Tryz.prog 91 #[.pointer (some ⟨B,0,none⟩),v] W (PutSome w0 W B bs (l.length*4)):=by
 cases hok:l.all Oc.fitsN
 ·refine(writerNum_bad _ W B vb bs v l hw hv hok).mono ?_;rintro e W' ⟨rfl,rfl⟩;exact⟨2,rfl,hg,KeptW.refl _ _ _,vb,[],Nat.zero_le _,by rw[List.append_nil];exact hw⟩
 ·refine(writerNum_keep w0 W B vb bs v l hw hg hv hs hok hlen).mono ?_;rintro e W' ⟨rfl,h1,h2,vb',h3⟩;exact⟨0,rfl,h1,h2,vb',Oc.bes l,by rw[Oc.bes_len];omega,h3⟩
theorem codePut_some(w0 W:World)(B:Nat)(vb:Value)(bs:List UInt8)(v:Value)(l:List Val)(hw:WriterAt w0.heap.size B W vb bs)(hg:Grew w0 W)(hv:ValsAt W v l)(hs:∀b off,(∃n c,v = .slice (some ⟨b,off,none⟩) n c)→Safe w0.heap.size b W∧b≠B)(hlen:bs.length≤10000):
  Calls Tryz.prog 154 #[.pointer (some ⟨B,0,none⟩),v] W (PutSome w0 W B bs 300):=by
 cases hf:Co.fitsI l
 ·refine(codePut_bad W B v l hv hf).mono ?_;rintro e W' ⟨rfl,g⟩;exact⟨1,rfl,hg.trans g,KeptW.ofGrew g,vb,[],Nat.zero_le _,by rw[List.append_nil];exact hw.grew g⟩
 ·refine(codePut_keep w0 W B vb bs v l hw hg hv hs hf hlen).mono ?_;rintro e W' ⟨rfl,h1,h2,vb',h3⟩;exact⟨0,rfl,h1,h2,vb',putI l,by have:=putI_len l hf;omega,h3⟩
def PutSomeN(w0 W:World)(B:Nat)(ys:List UInt8)(n:Nat)(e:Ending)(W':World): Prop:=e = .returned (.tuple #[])∧Grew w0 W'∧KeptW w0.heap.size B W W'∧∃vb' zs,zs.length≤n∧WriterAt w0.heap.size B W' vb' (ys++zs)
theorem writerNum_freshS(w0 W:World)(B:Nat)(vb:Value)(bs:List UInt8)(l:List Int)(c:List Value)(b n cap:Nat)(hw:WriterAt w0.heap.size B W vb bs)(hg:Grew w0 W)(hc:c=l.map (Value.int .i64))(hb:b=W.heap.size)(hn:n=l.length)(hlen:bs.length+l.length*4≤100000):
  Calls Tryz.prog 91 #[.pointer (some ⟨B,0,none⟩),.slice (some ⟨b,0,none⟩) n cap] (W.alloc (.cells c.toArray 3)) (PutSome w0 W B bs (l.length*4)):=by
 have hB:=(Array.getElem?_eq_some_iff.1 hw.2.1).1;refine(writerNum_some w0 _ B vb bs _ l (hw.grew ((Grew.refl W).alloc _)) (hg.alloc _) ?_ ?_ hlen).mono fun e W' ⟨x,h1,h2,h3,h4⟩=>⟨x,h1,h2,(KeptW.ofGrew ((Grew.refl W).alloc _)).trans h3,h4⟩
 ·refine RowsAt.fresh hn (by unfold maxLen;omega) encN_len hb ?_;rw[hc];clear hc hlen hn
  induction l with
  | nil=>rfl
  | cons x l ih=>rw[List.map_cons,List.flatMap_cons,ih];rfl
 ·rintro b2 off ⟨n2,c2,e⟩;cases e;subst hb;exact⟨.inr ⟨_,_,_,heap_new_at W _ _ rfl,by decide⟩,by omega⟩
theorem putNode_some(w0 W:World)(B:Nat)(vb:Value)(ys:List UInt8)(c:NdC)(n:Gr.Nd)(hw:WriterAt w0.heap.size B W vb ys)(hg:Grew w0 W)(hn:NodeIs W c n)(hsf:Apart w0.heap.size B W c.vf)(hsp:Apart w0.heap.size B W c.vp)(hok:n.frm.length≤100)(hlen:ys.length≤8000):
  Calls Tryz.prog 106 #[.pointer (some ⟨B,0,none⟩),.agg #[.int .i64 c.id,.int .i64 c.kind,.slice c.af c.nf c.cf,.slice c.ap c.np c.cp,.int .i64 c.par,.int .i64 c.r0,.int .i64 c.r1,.int .i64 c.r2,.int .i64 c.r3,.int .i64 c.r4,.int .i64 c.r5,.int .i64 c.r6,.int .i64 c.r7]] W (PutSomeN w0 W B ys 1000):=by
 obtain⟨id,kind,af,cf,ap,cp,par,r0,r1,r2,r3,r4,r5,r6,r7,rfl⟩:=hn.lit;have hr8:=hn.route;simp only at hr8;have HW:=hY hw;have HG:=hY hg;have HN:=hY hn;have HSF:=hY hsf;have HSP:=hY hsp;have HOK:=hY hok;have HR8:=hY hr8;have hBlt:=(Array.getElem?_eq_some_iff.1 hw.2.1).1;have hneB:W.heap.size≠B:=by omega
 clear hw hg hn hsf hsp hok hr8;have hbx0:(W.alloc (.cells #[.int .i64 id,.int .i64 kind,.slice af n.frm.length cf,.slice ap n.prog.length cp,.int .i64 par,.int .i64 r0,.int .i64 r1,.int .i64 r2,.int .i64 r3,.int .i64 r4,.int .i64 r5,.int .i64 r6,.int .i64 r7] 52)).heap[W.heap.size]? = some (.cells #[.int .i64 id,.int .i64 kind,.slice af n.frm.length cf,.slice ap n.prog.length cp,.int .i64 par,.int .i64 r0,.int .i64 r1,.int .i64 r2,.int .i64 r3,.int .i64 r4,.int .i64 r5,.int .i64 r6,.int .i64 r7] 52):=heap_new_at W _ _ rfl;have HBX0:=hY hbx0;clear hbx0;show Calls Tryz.prog 106 #[.pointer (some ⟨B,0,none⟩),.agg #[.int .i64 id,.int .i64 kind,.slice af n.frm.length cf,.slice ap n.prog.length cp,.int .i64 par,.int .i64 r0,.int .i64 r1,.int .i64 r2,.int .i64 r3,.int .i64 r4,.int .i64 r5,.int .i64 r6,.int .i64 r7]] W _;go_enter Tryz.func106,Tryz.ntmps106
 go_wp2_with fail
 refine(writerNum_freshS w0 (W.alloc (.cells #[.int .i64 id,.int .i64 kind,.slice af n.frm.length cf,.slice ap n.prog.length cp,.int .i64 par,.int .i64 r0,.int .i64 r1,.int .i64 r2,.int .i64 r3,.int .i64 r4,.int .i64 r5,.int .i64 r6,.int .i64 r7] 52)) B vb ys [id,kind,n.frm.length] [.int .i64 id,.int .i64 kind,.int .i64 n.frm.length] _ _ _ (HW.o.grew gw) (HG.o.alloc _) rfl (by simp[go_sem]) rfl (by simp only[List.length_append,List.length_cons,List.length_nil] at *;omega)).mono ?_;rintro e W1 ⟨xx1,rfl,hg1,hk1,vb1,zs1,hz1,hw1⟩;have HW1:=hY hw1;have HG1:=hY hg1;have HK1:=hY ((KeptW.ofGrew ((Grew.refl W).alloc _)).trans hk1);have hbx1:=hk1.cells HBX0.o hneB (by decide);have HBX1:=hY hbx1;clear hw1 hg1 hk1;have x2:=cell_of (o:=2) HBX1.o;simp at x2;have px2:=Pre.mk (heap_lt HBX1.o);have hfl:=HOK.o
 go_wp2_with fail
 refine(writerNum_some w0 W1 B vb1 _ _ n.frm HW1.o HG1.o (HSF.o.kept HK1.o HN.o.f (ints_lt HN.o.f)) (HSF.o.to HK1.o) (by simp only[List.length_append,List.length_cons,List.length_nil] at *;omega)).mono ?_;rintro e W2 ⟨xx2,rfl,hg2,hk2,vb2,zs2,hz2,hw2⟩;have HW2:=hY hw2;have HG2:=hY hg2;have HK2:=hY (HK1.o.trans hk2);have hbx2:=hk2.cells HBX1.o hneB (by decide);have HBX2:=hY hbx2;clear hw2 hg2 hk2 hbx2 x2 px2;have x3:=cell_of (o:=3) HBX2.o;simp at x3;have px3:=Pre.mk (heap_lt HBX2.o)
 go_wp2_with fail
 refine(codePut_some w0 W2 B vb2 _ _ n.prog HW2.o HG2.o (HSP.o.kept HK2.o HN.o.p (vals_lt HN.o.p)) (HSP.o.to HK2.o) (by simp only[List.length_append,List.length_cons,List.length_nil] at *;omega)).mono ?_;rintro e W3 ⟨xx3,rfl,hg3,hk3,vb3,zs3,hz3,hw3⟩;have HW3:=hY hw3;have HG3:=hY hg3;have HK3:=hY (HK2.o.trans hk3);have hbx3:=hk3.cells HBX2.o hneB (by decide);have HBX3:=hY hbx3;clear hw3 hg3 hk3 hbx3 x3 px3;have x4:=cell_of (o:=4) HBX3.o;simp at x4;have px4:=Pre.mk (heap_lt HBX3.o)
 go_wp2_with fail
 refine(writerNum_freshS w0 W3 B vb3 _ [par] [.int .i64 par] _ _ _ HW3.o HG3.o rfl (by simp[go_sem]) rfl (by simp only[List.length_append,List.length_cons,List.length_nil] at *;omega)).mono ?_;rintro e W4 ⟨xx4,rfl,hg4,hk4,vb4,zs4,hz4,hw4⟩;have HW4:=hY hw4;have HG4:=hY hg4;have HK4:=hY (HK3.o.trans hk4);have hbx4:=hk4.cells HBX3.o hneB (by decide);have HBX4:=hY hbx4;clear hw4 hg4 hk4 hbx4 x4 px4;have px5:=Pre.mk (heap_lt HBX4.o)
 go_wp2_with fail
 refine(writerNum_some w0 W4 B vb4 _ _ [r0,r1,r2,r3,r4,r5,r6,r7] HW4.o HG4.o (route_box HBX4.o) ?_ (by simp only[List.length_append,List.length_cons,List.length_nil] at *;omega)).mono ?_
 ·rintro b off ⟨m,k,e⟩;cases e;exact⟨.inr ⟨_,_,_,HBX4.o,by decide⟩,hneB⟩
 rintro e W5 ⟨xx5,rfl,hg5,hk5,vb5,zs5,hz5,hw5⟩;have HW5:=hY hw5;have HG5:=hY hg5;have HK5:=hY (HK4.o.trans hk5);clear hw5 hg5 hk5;go_wp2
 go_end0
 refine⟨rfl,HG5.o,HK5.o,vb5,zs1++(zs2++(zs3++(zs4++zs5))),?_,?_⟩
 ·simp only[List.length_append,List.length_cons,List.length_nil] at *;omega
 ·have:=HW5.o;simp only[List.append_assoc] at this;exact this
end Go.Proofs.YtipgfjihdglocaaGreat
