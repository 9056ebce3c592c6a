import Derived.Test.YtgebkpgilgppgaaGreatMw18
import Derived.Test.YtgebkpgilgppgaaGreatMw19
import Derived.Deep.LoopGhost
import Derived.Test.YtgebkpgilgppgaaGreatMw21
import Derived.Test.YtgebkpgilgppgaaGreatMw11
set_option linter.unusedSimpArgs false
set_option linter.unusedVariables false
set_option maxRecDepth 100000
set_option maxHeartbeats 64000000
namespace Go.Proofs.YtgebkpgilgppgaaGreat
open Go.RowKit Ga
theorem X5(id kd par r0 r1 r2 r3 r4 r5 r6 r7:Int)(af ap:Option Addr)(nf cf np cp:Nat)(reset:Bool)(s:Gr.Stp)(w:World)(hn:Ai w ⟨1,⟨id,kd,af,nf,cf,ap,np,cp,par,r0,r1,r2,r3,r4,r5,r6,r7⟩,reset⟩ s)(hs:s.nd.frm.length≤1000∧s.nd.prog.length≤1000): Calls Tryz.prog 40 #[.agg #[.int .i64 1,.int .i64 id,.int .i64 kd,.slice af nf cf,.slice ap np cp,.int .i64 par,.int .i64 r0,.int .i64 r1,.int .i64 r2,.int .i64 r3,.int .i64 r4,.int .i64 r5,.int .i64 r6,.int .i64 r7,.bool reset]] w (Cr (Gr.cleanS s) w):=by
 have hcl:=hn.clean;have HCL:=hY hcl;have HN:=hY hn;have H1:=hY fun W (g:AA w W)=>CZ _ s.nd.frm W (HN.o.nd.f.grew g) hs.1
 have H2:=hY fun W (g:AA w W)=>Cs _ s.nd.prog W (HN.o.nd.p.grew g) hs.2
 have HND:=hY hn.nd;have HS:=hY hs;have HK:=hY hn.kind;clear hn hcl hs;go_enter Tryz.func40,Tryz.ntmps40
 go_upto_region 6 with fail
 go_region_held3 (fun w'=>w'.cell? ⟨w.heap.size+1+1,0,none⟩=some (.int .i64 id)∧w'.cell? ⟨w.heap.size+1+1,3,none⟩=some (.slice ap np cp)∧w'.cell? ⟨w.heap.size,14,none⟩=some (.bool reset)) ((refine⟨?_,?_,?_⟩<;>simp[go_sem])) (first
  | (go_simp;go_at_call 80;refine(H2.o _ gw).mono ?_;rintro e w1 ⟨v1,rfl,ho1,R3,n3,rfl⟩;obtain⟨a1,c1,rfl⟩:=(ho1.rows C8).len;(have HO1:=hY ho1);clear ho1))
 all_goals
  go_wp2;refine bodyPost_ret (D6 rfl (AC ((AA.refl _).more _ _) (Ag (Ag (AO (w.alloc _) _ _ (by simp[World.size_alloc])) _) _))) rfl ?_;refine SG HN.o (OwnAt.low (OwnAt.same HO1.o fun b hb=>Bc (by simp[World.size_alloc]) _ _ _ (by have:=HO1.o.lt b hb;simp[World.size_alloc] at this ⊢;omega)) (by simp[World.size_alloc];omega)) gw
theorem Ox(base:Nat)(W:World)(B:Nat)(vb:Value)(bs:List UInt8)(v:Value)(l:List Int)(_hw:BH base B W vb bs)(hv:AX 1 Cx W v l)(hok:l.all Oc.fitsN=false):
  Calls Tryz.prog 128 #[.pointer (some ⟨B,0,none⟩),v] W fun e W'=>e = .returned (.int .i64 2)∧W'=W:=by
 obtain⟨a,cap,rfl,hm,hl⟩:=hv.open1;have HL:=hY hl;have HOK:=hY hok;clear hv hok hl _hw;go_enter Tryz.func128,Tryz.ntmps128;go_wp2
 go_loopg [14] l.length (fun gg i wr=>∃(k:Nat),k≤l.length∧l.length-k≤gg∧i = .int .i64 k∧wr=W∧Hid (∀x∈l.take k,Oc.fitsN x=true))
 case atStart=>exact⟨0,Nat.zero_le _,by omega,rfl,rfl,hY fun x hx=>by simp at hx⟩
 case round =>
  obtain⟨k,hk,hgg,rfl,rfl,HNO⟩:=hrel;by_cases hlt:k<l.length
  ·obtain⟨b,off,rfl,hb,hx⟩:=HL.o k hlt;have HTK:=hY (List.take_succ_eq_append_getElem hlt);generalize l[k]=x at *;cases hf:Oc.fitsN x
   ·have HF:=hY hf;clear hf
    go_wp2_with (go_at_call 156;refine(Ik _ _).mono ?_;rintro e w1 ⟨rfl,rfl⟩;rw[HF.o])
    go_ret;exact⟨rfl,rfl⟩
   ·have HF:=hY hf;clear hf
    go_wp2_with (go_at_call 156;refine(Ik _ _).mono ?_;rintro e w1 ⟨rfl,rfl⟩;rw[HF.o])
    go_roundg (l.length-(k+1))
    case measure=>omega
    case rel=>exact⟨k+1,by omega,by omega,by go_num,rfl,hY fun y hy=>by
     rw[HTK.o,List.mem_append,List.mem_singleton] at hy;rcases hy with hy|rfl
     ·exact HNO.o y hy
     ·exact HF.o⟩
  ·obtain rfl:k=l.length:=by omega
   have h1:=HNO.o;rw[List.take_length] at h1;have h2:=HOK.o;rw[List.all_eq_true.2 h1] at h2;cases h2
theorem TT(W:World)(B:Nat)(v:Value)(l:List Val)(hv:Bq W v l)(hf:Co.fitsI l=false): Calls Tryz.prog 157 #[.pointer (some ⟨B,0,none⟩),v] W (Ac (.int .i64 1) W):=by
 obtain⟨a,cap,rfl,hm,-⟩:=hv.open2;have HV:=hY hv;have HF:=hY hf;clear hv hf;go_enter Tryz.func157,Tryz.ntmps157
 go_wp2_with (go_at_call 173;refine(Dj _ l _ (HV.o.grew gw)).mono ?_;rintro e w1 ⟨rfl,R3,n3,rfl⟩;rw[HF.o])
 go_ret;refine⟨rfl,?_⟩;exact gw
def Q8(w0 W:World)(B:Nat)(bs:List UInt8)(n:Nat)(e:Ending)(W':World): Prop:=∃x,e = .returned (.int .i64 x)∧AA w0 W'∧CJ w0.heap.size B W W'∧∃vb' zs,zs.length≤n∧BH w0.heap.size B W' vb' (bs++zs)
theorem FP(w0 W:World)(B:Nat)(vb:Value)(bs:List UInt8)(v:Value)(l:List Int)(hw:BH w0.heap.size B W vb bs)(hg:AA w0 W)(hv:AX 1 Cx W v l)
  (hs:∀b off,(∃n c,v = .slice (some ⟨b,off,none⟩) n c)→Safe w0.heap.size b W∧b≠B) (hlen:bs.length+l.length*4≤100000) :
  Calls Tryz.prog 128 #[.pointer (some ⟨B,0,none⟩),v] W (Q8 w0 W B bs (l.length*4)):=by
 cases hok:l.all Oc.fitsN
 ·refine(Ox _ W B vb bs v l hw hv hok).mono ?_;rintro e W' ⟨rfl,rfl⟩;exact⟨2,rfl,hg,CJ.refl _ _ _,vb,[],Nat.zero_le _,by rw[List.append_nil];exact hw⟩
 ·refine(EI w0 W B vb bs v l hw hg hv hs hok hlen).mono ?_;rintro e W' ⟨rfl,h1,h2,vb',h3⟩;exact⟨0,rfl,h1,h2,vb',Oc.bes l,by rw[Oc.bes_len];omega,h3⟩
theorem Q9(w0 W:World)(B:Nat)(vb:Value)(bs:List UInt8)(v:Value)(l:List Val)(hw:BH w0.heap.size B W vb bs)(hg:AA w0 W)(hv:Bq W v l)(hs:∀b off,(∃n c,v = .slice (some ⟨b,off,none⟩) n c)→Safe w0.heap.size b W∧b≠B)(hlen:bs.length≤10000):
  Calls Tryz.prog 157 #[.pointer (some ⟨B,0,none⟩),v] W (Q8 w0 W B bs 300):=by
 cases hf:Co.fitsI l
 ·refine(TT W B v l hv hf).mono ?_;rintro e W' ⟨rfl,g⟩;exact⟨1,rfl,hg.trans g,CJ.ofGrew g,vb,[],Nat.zero_le _,by rw[List.append_nil];exact hw.grew g⟩
 ·refine(Ke w0 W B vb bs v l hw hg hv hs hf hlen).mono ?_;rintro e W' ⟨rfl,h1,h2,vb',h3⟩;exact⟨0,rfl,h1,h2,vb',BZ l,by have:=IY l hf;omega,h3⟩
def A08(w0 W:World)(B:Nat)(ys:List UInt8)(n:Nat)(e:Ending)(W':World): Prop:=e = .returned (.tuple #[])∧AA w0 W'∧CJ w0.heap.size B W W'∧∃vb' zs,zs.length≤n∧BH w0.heap.size B W' vb' (ys++zs)
theorem GX(w0 W:World)(B:Nat)(vb:Value)(bs:List UInt8)(l:List Int)(c:List Value)(b n cap:Nat)(hw:BH w0.heap.size B W vb bs)(hg:AA w0 W)(hc:c=l.map (Value.int .i64))(hb:b=W.heap.size)(hn:n=l.length)(hlen:bs.length+l.length*4≤100000):
  Calls Tryz.prog 128 #[.pointer (some ⟨B,0,none⟩),.slice (some ⟨b,0,none⟩) n cap] (W.alloc (.cells c.toArray 3)) (Q8 w0 W B bs (l.length*4)):=by
 have hB:=(Array.getElem?_eq_some_iff.1 hw.2.1).1;refine(FP w0 _ B vb bs _ l (hw.grew ((AA.refl W).alloc _)) (hg.alloc _) ?_ ?_ hlen).mono fun e W' ⟨x,h1,h2,h3,h4⟩=>⟨x,h1,h2,(CJ.ofGrew ((AA.refl W).alloc _)).trans h3,h4⟩
 ·refine AX.fresh hn (by unfold maxLen;omega) Ar hb ?_;rw[hc];clear hc hlen hn
  induction l with
  | nil=>rfl
  | cons x l ih=>rw[List.map_cons,List.flatMap_cons,ih];rfl
 ·rintro b2 off ⟨n2,c2,e⟩;cases e;subst hb;exact⟨.inr ⟨_,_,_,AO W _ _ rfl,by decide⟩,by omega⟩
theorem RU(w0 W:World)(B:Nat)(vb:Value)(ys:List UInt8)(c:BM)(n:Gr.Nd)(hw:BH w0.heap.size B W vb ys)(hg:AA w0 W)(hn:A9 W c n)(hsf:Apart w0.heap.size B W c.vf)(hsp:Apart w0.heap.size B W c.vp)(hok:n.frm.length≤100)(hlen:ys.length≤8000):
  Calls Tryz.prog 129 #[.pointer (some ⟨B,0,none⟩),.agg #[.int .i64 c.id,.int .i64 c.kind,.slice c.af c.nf c.cf,.slice c.ap c.np c.cp,.int .i64 c.par,.int .i64 c.r0,.int .i64 c.r1,.int .i64 c.r2,.int .i64 c.r3,.int .i64 c.r4,.int .i64 c.r5,.int .i64 c.r6,.int .i64 c.r7]] W (A08 w0 W B ys 1000):=by
 obtain⟨id,kind,af,cf,ap,cp,par,r0,r1,r2,r3,r4,r5,r6,r7,rfl⟩:=hn.lit;have hr8:=hn.route;simp only at hr8;have HW:=hY hw;have HG:=hY hg;have HN:=hY hn;have HSF:=hY hsf;have HSP:=hY hsp;have HOK:=hY hok;have HR8:=hY hr8;have hBlt:=(Array.getElem?_eq_some_iff.1 hw.2.1).1;have hneB:W.heap.size≠B:=by omega
 clear hw hg hn hsf hsp hok hr8;have hbx0:(W.alloc (.cells #[.int .i64 id,.int .i64 kind,.slice af n.frm.length cf,.slice ap n.prog.length cp,.int .i64 par,.int .i64 r0,.int .i64 r1,.int .i64 r2,.int .i64 r3,.int .i64 r4,.int .i64 r5,.int .i64 r6,.int .i64 r7] 64)).heap[W.heap.size]? = some (.cells #[.int .i64 id,.int .i64 kind,.slice af n.frm.length cf,.slice ap n.prog.length cp,.int .i64 par,.int .i64 r0,.int .i64 r1,.int .i64 r2,.int .i64 r3,.int .i64 r4,.int .i64 r5,.int .i64 r6,.int .i64 r7] 64):=AO W _ _ rfl;have HBX0:=hY hbx0;clear hbx0;show Calls Tryz.prog 129 #[.pointer (some ⟨B,0,none⟩),.agg #[.int .i64 id,.int .i64 kind,.slice af n.frm.length cf,.slice ap n.prog.length cp,.int .i64 par,.int .i64 r0,.int .i64 r1,.int .i64 r2,.int .i64 r3,.int .i64 r4,.int .i64 r5,.int .i64 r6,.int .i64 r7]] W _;go_enter Tryz.func129,Tryz.ntmps129
 go_wp2_with fail
 refine(GX w0 (W.alloc (.cells #[.int .i64 id,.int .i64 kind,.slice af n.frm.length cf,.slice ap n.prog.length cp,.int .i64 par,.int .i64 r0,.int .i64 r1,.int .i64 r2,.int .i64 r3,.int .i64 r4,.int .i64 r5,.int .i64 r6,.int .i64 r7] 64)) B vb ys [id,kind,n.frm.length] [.int .i64 id,.int .i64 kind,.int .i64 n.frm.length] _ _ _ (HW.o.grew gw) (HG.o.alloc _) rfl (by simp[go_sem]) rfl (by simp only[List.length_append,List.length_cons,List.length_nil] at *;omega)).mono ?_;rintro e W1 ⟨xx1,rfl,hg1,hk1,vb1,zs1,hz1,hw1⟩;have HW1:=hY hw1;have HG1:=hY hg1;have HK1:=hY ((CJ.ofGrew ((AA.refl W).alloc _)).trans hk1);have hbx1:=hk1.cells HBX0.o hneB (by decide);have HBX1:=hY hbx1;clear hw1 hg1 hk1;have x2:=cell_of (o:=2) HBX1.o;simp at x2;have px2:=Ad.mk (AB HBX1.o);have hfl:=HOK.o
 go_wp2_with fail
 refine(FP w0 W1 B vb1 _ _ n.frm HW1.o HG1.o (HSF.o.kept HK1.o HN.o.f (XD HN.o.f)) (HSF.o.to HK1.o) (by simp only[List.length_append,List.length_cons,List.length_nil] at *;omega)).mono ?_;rintro e W2 ⟨xx2,rfl,hg2,hk2,vb2,zs2,hz2,hw2⟩;have HW2:=hY hw2;have HG2:=hY hg2;have HK2:=hY (HK1.o.trans hk2);have hbx2:=hk2.cells HBX1.o hneB (by decide);have HBX2:=hY hbx2;clear hw2 hg2 hk2 hbx2 x2 px2;have x3:=cell_of (o:=3) HBX2.o;simp at x3;have px3:=Ad.mk (AB HBX2.o)
 go_wp2_with fail
 refine(Q9 w0 W2 B vb2 _ _ n.prog HW2.o HG2.o (HSP.o.kept HK2.o HN.o.p (XE HN.o.p)) (HSP.o.to HK2.o) (by simp only[List.length_append,List.length_cons,List.length_nil] at *;omega)).mono ?_;rintro e W3 ⟨xx3,rfl,hg3,hk3,vb3,zs3,hz3,hw3⟩;have HW3:=hY hw3;have HG3:=hY hg3;have HK3:=hY (HK2.o.trans hk3);have hbx3:=hk3.cells HBX2.o hneB (by decide);have HBX3:=hY hbx3;clear hw3 hg3 hk3 hbx3 x3 px3;have x4:=cell_of (o:=4) HBX3.o;simp at x4;have px4:=Ad.mk (AB HBX3.o)
 go_wp2_with fail
 refine(GX w0 W3 B vb3 _ [par] [.int .i64 par] _ _ _ HW3.o HG3.o rfl (by simp[go_sem]) rfl (by simp only[List.length_append,List.length_cons,List.length_nil] at *;omega)).mono ?_;rintro e W4 ⟨xx4,rfl,hg4,hk4,vb4,zs4,hz4,hw4⟩;have HW4:=hY hw4;have HG4:=hY hg4;have HK4:=hY (HK3.o.trans hk4);have hbx4:=hk4.cells HBX3.o hneB (by decide);have HBX4:=hY hbx4;clear hw4 hg4 hk4 hbx4 x4 px4;have px5:=Ad.mk (AB HBX4.o)
 go_wp2_with fail
 refine(FP w0 W4 B vb4 _ _ [r0,r1,r2,r3,r4,r5,r6,r7] HW4.o HG4.o (Pq HBX4.o) ?_ (by simp only[List.length_append,List.length_cons,List.length_nil] at *;omega)).mono ?_
 ·rintro b off ⟨m,k,e⟩;cases e;exact⟨.inr ⟨_,_,_,HBX4.o,by decide⟩,hneB⟩
 rintro e W5 ⟨xx5,rfl,hg5,hk5,vb5,zs5,hz5,hw5⟩;have HW5:=hY hw5;have HG5:=hY hg5;have HK5:=hY (HK4.o.trans hk5);clear hw5 hg5 hk5;go_wp2
 go_end0
 refine⟨rfl,HG5.o,HK5.o,vb5,zs1++(zs2++(zs3++(zs4++zs5))),?_,?_⟩
 ·simp only[List.length_append,List.length_cons,List.length_nil] at *;omega
 ·have:=HW5.o;simp only[List.append_assoc] at this;exact this
def RTabAt(W:World)(t:Nat)(f:CR): Prop:=∃C:Array Value,W.heap[t]? = some (.cells C 55)∧C.size=2048∧∀n k:Nat,n<8→k<64 →
 C[n*256+k*4]? = some (.int .i64 (f n k).1.1)∧C[n*256+k*4+1]? = some (.int .i64 (f n k).1.2)∧C[n*256+k*4+2]? = some (.int .i64 (f n k).2.1)∧C[n*256+k*4+3]? = some (.int .i64 (f n k).2.2)
theorem RTabAt.lt{W:World}{t:Nat}{f:CR}(h:RTabAt W t f): t<W.heap.size:=let ⟨_,h1,_⟩:=h;AB h1
theorem RTabAt.same{W W':World}{t:Nat}{f:CR}(h:RTabAt W t f)(hb:W'.heap[t]? = W.heap[t]?): RTabAt W' t f:=let ⟨C,h1,h2⟩:=h;⟨C,hb.trans h1,h2⟩
theorem RTabAt.grew{W W':World}{t:Nat}{f:CR}(h:RTabAt W t f)(g:AA W W'): RTabAt W' t f:=h.same (g.below.block t h.lt)
theorem RTabAt.cells{W:World}{t:Nat}{f:CR}(h:RTabAt W t f){n k:Nat}(hn:n<8)(hk:k<64):
  W.cell? ⟨t,n*256+k*4,none⟩=some (.int .i64 (f n k).1.1)∧W.cell? ⟨t,n*256+k*4+1,none⟩=some (.int .i64 (f n k).1.2)∧W.cell? ⟨t,n*256+k*4+2,none⟩=some (.int .i64 (f n k).2.1)∧W.cell? ⟨t,n*256+k*4+3,none⟩=some (.int .i64 (f n k).2.2):=by
 obtain⟨C,h1,h2,h3⟩:=h;obtain⟨q0,q1,q2,q3⟩:=h3 n k hn hk;exact⟨(cell_of h1).trans q0,(cell_of h1).trans q1,(cell_of h1).trans q2,(cell_of h1).trans q3⟩
theorem RTabAt.frozen{W:World}{t o:Nat}{f:CR}(h:RTabAt W t f): W.frozen? ⟨t,o,none⟩=false:=let ⟨_,h1,_⟩:=h;AJ h1
theorem RTabAt.set{W:World}{t:Nat}{f:CR}(h:RTabAt W t f){n k:Nat}(hn:n<8)(hk:k<64)(a b c d:Int):
  RTabAt ((((W.setCell ⟨t,n*256+k*4,none⟩ (.int .i64 a)).setCell ⟨t,n*256+k*4+1,none⟩ (.int .i64 b)).setCell ⟨t,n*256+k*4+2,none⟩ (.int .i64 c)).setCell ⟨t,n*256+k*4+3,none⟩ (.int .i64 d)) t (WE f n k ((a,b),(c,d))):=by
 obtain⟨C,h1,h2,h3⟩:=h;refine⟨_,set_self (set_self (set_self (set_self h1))),by simp[h2],fun n' k' hn' hk'=>?_⟩;obtain⟨q0,q1,q2,q3⟩:=h3 n' k' hn' hk';unfold WE;by_cases e:n'=n∧k'=k
 ·obtain⟨rfl,rfl⟩:=e;have hlt:n'*256+k'*4+3<C.size:=by rw[h2];omega
  simp only[and_self,if_true];refine⟨?_,?_,?_,?_⟩<;>simp[Array.getElem?_setIfInBounds]<;>omega
 ·have e':¬((n':Int)=n∧(k':Int)=k):=fun q=>e ⟨by omega,by omega⟩
  rw[if_neg e'];have hne:n'*256+k'*4≠n*256+k*4:=fun q=>e (by omega)
  refine⟨?_,?_,?_,?_⟩
  all_goals
   simp only[Array.getElem?_setIfInBounds]
   repeat rw[if_neg (by omega)]
   assumption
theorem RTabAt.made(W:World)(t:Nat)(ht:t=W.heap.size): RTabAt (W.alloc (.cells (Array.replicate 2048 (.int .i64 0)) 55)) t (fun _ _=>zer):=by
 refine⟨_,AO _ _ _ ht,by simp,fun n k hn hk=>?_⟩;refine⟨?_,?_,?_,?_⟩<;>rw[Array.getElem?_replicate,if_pos (by omega)]
theorem OA(a b c d:Int)(r:Bool)(h:Tab.nz ⟨0,0,(a,b),(c,d)⟩=r)(w:World): (binOp .neq 52 (.agg #[.int .i64 a,.int .i64 b,.int .i64 c,.int .i64 d]) (.agg #[.int .i64 0,.int .i64 0,.int .i64 0,.int .i64 0])).run Tryz.prog w = .ok (.bool r) w:=by
 subst h;unfold Tab.nz;simp[go_sem,Wu];by_cases h1:a=0<;>by_cases h2:b=0<;>by_cases h3:c=0<;>by_cases h4:d=0<;>simp[h1,h2,h3,h4]
def A1F(f:CR)(w:World)(e:Ending)(w':World): Prop:=∃v,e = .returned v∧OwnAt w.heap.size 57 6 Ci w' v (Bv f 512)∧AA w w'
theorem RY(W:World)(t:Nat)(f:CR)(h:RTabAt W t f): Calls Tryz.prog 17 #[.pointer (some ⟨t,0,none⟩)] W (A1F f W):=by
 have HT:=hY h;clear h;go_enter Tryz.func17,Tryz.ntmps17;go_wp2
 go_loopg [3,4] 8 (fun gg s3 s4 wr=>∃n:Nat,n≤8∧8-n≤gg∧s4 = .int .i64 n∧Hid (AA W wr)∧Hid (OwnAt W.heap.size 57 6 Ci wr s3 (Bv f (n*64))))
 case atStart=>exact⟨0,by omega,by omega,rfl,hY gw,hY (OwnAt.fresh (t:=57) (l:=[]) rfl rfl rfl (by simp[maxLen]) Az rfl (Nat.le_refl _) rfl)⟩
 case round =>
  obtain⟨n,hn,hgg,rfl,HG,HO⟩:=hrel;by_cases hlt:n<8
  ·have hb:(n:Int)<8:=by omega
   go_wp2
   go_loopg [3,5] 64 (fun gg2 s3' s5 wr2=>∃k:Nat,k≤64∧64-k≤gg2∧s5 = .int .i64 k∧Hid (AA W wr2)∧Hid (OwnAt W.heap.size 57 6 Ci wr2 s3' (Bv f (n*64+k))))
   case atStart=>exact⟨0,by omega,by omega,rfl,HG,HO⟩
   case round =>
    obtain⟨k,hk,hgg2,rfl,HG2,HO2⟩:=hrel;by_cases hlt2:k<64
    ·have hb2:(k:Int)<64:=by omega
     obtain⟨c0,c1,c2,c3⟩:=(HT.o.grew HG2.o).cells hlt hlt2;have pt:=Ad.mk (HT.o.grew HG2.o).lt;have HS:=hY (UD f (n*64+k));have HE:=hY (RZ f (n:=n) hlt2);have hlen:=WB f (n*64+k);have HNZ:=hY (show Tab.nz (OB f (n*64+k))=Tab.nz ⟨0,0,((f n k).1.1,(f n k).1.2),((f n k).2.1,(f n k).2.2)⟩ by rw[RZ f hlt2];rfl);generalize f n k=c at *;obtain⟨⟨p0,q0⟩,⟨p1,q1⟩⟩:=c;simp only at c0 c1 c2 c3;cases hz:Tab.nz ⟨0,0,(p0,q0),(p1,q1)⟩
     ·have hq:=OA p0 q0 p1 q1 false hz;have HZ:=hY hz;clear hz;go_wp2
      go_roundg (64-(k+1))
      case measure=>omega
      case rel=>exact⟨k+1,by omega,by omega,by go_num,HG2,hY (by rw[←Nat.add_assoc,HS.o,HNZ.o,HZ.o];simpa using HO2.o)⟩
     ·have hq:=OA p0 q0 p1 q1 true hz;have HZ:=hY hz;clear hz
      go_wp2_with (at_builtin;go_loud (refine Am (w0:=W) rfl (.tmp 24) (.tmp 35) 23 _ _ _ _ [⟨(n:Int),(k:Int),(p0,q0),(p1,q1)⟩] rfl Tryz.underlying23 Mv rfl (by decide) Az E5 rfl (OwnAt.grew HO2.o gw) (HG2.o.trans gw) rfl (Wj _ _ _ _ rfl (by simp[go_sem])) (by simp;omega) (by decide) (by simp) ?_;intro v5 W5 hA;(have HA:=hY hA);clear hA))
      go_roundg (64-(k+1))
      case measure=>omega
      case rel=>exact⟨k+1,by omega,by omega,by go_num,hY HA.o.1,hY (by rw[←Nat.add_assoc,HS.o,HNZ.o,HZ.o,if_pos rfl,HE.o];exact HA.o.2.1)⟩
    ·obtain rfl:k=64:=by omega
     go_wp2
     go_roundg (8-(n+1))
     case measure=>omega
     case rel=>exact⟨n+1,by omega,by omega,by go_num,HG2,hY (by rw[show(n+1)*64=n*64+64 by omega];exact HO2.o)⟩
  ·obtain rfl:n=8:=by omega
   obtain⟨ak,ck,rfl⟩:=(OwnAt.rows HO.o Az).len;go_wp2;go_ret;exact⟨_,rfl,HO.o,HG.o⟩
end Go.Proofs.YtgebkpgilgppgaaGreat
