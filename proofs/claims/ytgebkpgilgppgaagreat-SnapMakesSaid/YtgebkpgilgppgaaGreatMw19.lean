import Derived.Test.YtgebkpgilgppgaaGreatMw14
import Derived.Test.YtgebkpgilgppgaaGreatMw17
import Derived.Test.YtgebkpgilgppgaaGreatMw5
import Derived.ChangeKeysEq
set_option linter.unusedSimpArgs false
set_option linter.unusedVariables false
set_option maxRecDepth 100000
set_option maxHeartbeats 64000000
namespace Go.Proofs.YtgebkpgilgppgaaGreat
open Go.RowKit Ga
def BF(p:List Vm.Ins): Prop:=Co.fitsI p=true
theorem VF(x:Int): Oc.bes [x]=Oc.be x:=by simp[Oc.bes]
theorem NH(x y z:Int): Oc.bes [x,y,z]=Oc.be x++(Oc.be y++Oc.be z):=by simp[Oc.bes]
theorem CJ.cells{base B q:Nat}{W W':World}{c:Array Value}{t:TypeId}(k:CJ base B W W')(h:W.heap[q]? = some (.cells c t))(hn:q≠B)(ht:t≠5): W'.heap[q]? = some (.cells c t):=by
 rw[k.2 q (AB h) hn (.inr ⟨_,_,_,h,ht⟩)];exact h
def Apart(base B:Nat)(W:World)(v:Value): Prop:=∀b off,(∃n c,v = .slice (some ⟨b,off,none⟩) n c)→Safe base b W∧b≠B
theorem Apart.kept{α:Type}{k:Nat}{enc:α→List Value}{base B:Nat}{W W':World}{v:Value}{l:List α}(h:Apart base B W v)(hk:CJ base B W W')(hr:AX k enc W v l)(hlt:∀b off,(∃n c,v = .slice (some ⟨b,off,none⟩) n c)→l≠[]→b<W.heap.size): AX k enc W' v l:=by
 cases l with
 |nil =>
  obtain⟨a,cap,rfl,hm,-⟩:=hr
  exact⟨a,cap,rfl,hm,fun h=>absurd rfl h⟩
 | cons x l=>exact AX.sameBlock hr fun b off hv=>hk.2 b (hlt b off hv (by simp)) (h b off hv).2 (h b off hv).1
theorem Apart.to{base B:Nat}{W W':World}{v:Value}(h:Apart base B W v)(hk:CJ base B W W'): Apart base B W' v:=fun b off hv=>by
 obtain⟨h1,h2⟩:=h b off hv;refine⟨?_,h2⟩;rcases h1 with h1|⟨c,t,f,hc,ht⟩
 ·exact .inl h1
 ·exact .inr ⟨c,t,f,by rw[hk.2 b (AB hc) h2 (.inr ⟨c,t,f,hc,ht⟩)];exact hc,ht⟩
theorem XD{W:World}{v:Value}{l:List Int}(h:BO W v l): ∀b off,(∃n c,v = .slice (some ⟨b,off,none⟩) n c)→l≠[]→b<W.heap.size:=by
 rintro b off ⟨n,c,rfl⟩ hne;exact RA (k:=0) h (List.length_pos_iff.2 hne)
theorem XE{W:World}{v:Value}{l:List Val}(h:Bq W v l): ∀b off,(∃n c,v = .slice (some ⟨b,off,none⟩) n c)→l≠[]→b<W.heap.size:=by
 rintro b off ⟨n,c,rfl⟩ hne;exact RA (k:=1) h (List.length_pos_iff.2 hne)
theorem A0K(x y z:Int): (Oc.bes [x,y,z]).length=12:=by rw[Oc.bes_len];rfl
theorem IY(p:List Val)(h:Co.fitsI p=true): (BZ p).length≤200:=by
 obtain⟨h24,_⟩:=Co.fits_parts h;unfold BZ;rw[List.length_append,Oc.be_len,Oc.bes_len,KQ];omega
theorem BG{x:Int}(h0 : -2147483648≤x)(h1:x≤2147483647): Oc.fitsN x=true:=by unfold Oc.fitsN;simp;omega
def A2D(w0 W:World)(B:Nat)(zs:List UInt8)(e:Ending)(W':World): Prop:=e = .returned (.tuple #[])∧AA w0 W'∧CJ w0.heap.size B W W'∧∃vb',BH w0.heap.size B W' vb' zs
theorem Pq{W:World}{q:Nat}{t:TypeId}{id kind par r0 r1 r2 r3 r4 r5 r6 r7:Int}{vf vp:Value}(h:W.heap[q]? = some (.cells #[.int .i64 id,.int .i64 kind,vf,vp,.int .i64 par,.int .i64 r0,.int .i64 r1,.int .i64 r2,.int .i64 r3,.int .i64 r4,.int .i64 r5,.int .i64 r6,.int .i64 r7] t)): BO W (.slice (some ⟨q,5,none⟩) 8 8) [r0,r1,r2,r3,r4,r5,r6,r7]:=by
 refine⟨_,8,rfl,(by unfold maxLen;simp),fun _=>⟨_,_,rfl,fun i x hi j u hu=>?_⟩⟩;rw[cell_of h]
 match j,hu with
 |0,hu =>
  simp at hu;subst hu
  match i,hi with
  | 0,hi=>simp at hi;subst hi;rfl
  | 1,hi=>simp at hi;subst hi;rfl
  | 2,hi=>simp at hi;subst hi;rfl
  | 3,hi=>simp at hi;subst hi;rfl
  | 4,hi=>simp at hi;subst hi;rfl
  | 5,hi=>simp at hi;subst hi;rfl
  | 6,hi=>simp at hi;subst hi;rfl
  | 7,hi=>simp at hi;subst hi;rfl
  | i+8,hi=>simp at hi
 | j+1,hu=>simp at hu
theorem Sw(ys:List UInt8)(n:Gr.Nd): ((((ys++Oc.bes [n.id,n.kind,n.frm.length])++Oc.bes n.frm)++BZ n.prog)++Oc.bes [n.par])++Oc.bes n.route=ys++Gr.putNd BZ n:=by
 rw[NH,VF];unfold Gr.putNd;simp only[List.append_assoc]
theorem Sy(w0 W:World)(B:Nat)(vb:Value)(ys:List UInt8)(c:BM)(n:Gr.Nd)(lp:Int)(hlp : -2147483648≤lp)(hw:BH w0.heap.size B W vb ys)(hg:AA w0 W)(hn:A9 W c n)(hsf:Apart w0.heap.size B W c.vf)(hsp:Apart w0.heap.size B W c.vp)(hok:Gr.OkB BF lp n)(hlen:ys.length≤8000):
  Calls Tryz.prog 129 #[.pointer (some ⟨B,0,none⟩),.agg #[.int .i64 c.id,.int .i64 c.kind,.slice c.af c.nf c.cf,.slice c.ap c.np c.cp,.int .i64 c.par,.int .i64 c.r0,.int .i64 c.r1,.int .i64 c.r2,.int .i64 c.r3,.int .i64 c.r4,.int .i64 c.r5,.int .i64 c.r6,.int .i64 c.r7]] W (A2D w0 W B (ys++Gr.putNd BZ n)):=by
 obtain⟨id,kind,af,cf,ap,cp,par,r0,r1,r2,r3,r4,r5,r6,r7,rfl⟩:=hn.lit;have hr8:=hn.route;simp only at hr8;have HW:=hY hw;have HG:=hY hg;have HN:=hY hn;have HSF:=hY hsf;have HSP:=hY hsp;have HOK:=hY hok;have HR8:=hY hr8;have hBlt:=(Array.getElem?_eq_some_iff.1 hw.2.1).1;have hneB:W.heap.size≠B:=by omega
 clear hw hg hn hsf hsp hok hr8;have hbx0:(W.alloc (.cells #[.int .i64 id,.int .i64 kind,.slice af n.frm.length cf,.slice ap n.prog.length cp,.int .i64 par,.int .i64 r0,.int .i64 r1,.int .i64 r2,.int .i64 r3,.int .i64 r4,.int .i64 r5,.int .i64 r6,.int .i64 r7] 64)).heap[W.heap.size]? = some (.cells #[.int .i64 id,.int .i64 kind,.slice af n.frm.length cf,.slice ap n.prog.length cp,.int .i64 par,.int .i64 r0,.int .i64 r1,.int .i64 r2,.int .i64 r3,.int .i64 r4,.int .i64 r5,.int .i64 r6,.int .i64 r7] 64):=AO W _ _ rfl;have HBX0:=hY hbx0;clear hbx0;show Calls Tryz.prog 129 #[.pointer (some ⟨B,0,none⟩),.agg #[.int .i64 id,.int .i64 kind,.slice af n.frm.length cf,.slice ap n.prog.length cp,.int .i64 par,.int .i64 r0,.int .i64 r1,.int .i64 r2,.int .i64 r3,.int .i64 r4,.int .i64 r5,.int .i64 r6,.int .i64 r7]] W _;go_enter Tryz.func129,Tryz.ntmps129
 go_wp2_with fail
 refine(CB w0 (W.alloc (.cells #[.int .i64 id,.int .i64 kind,.slice af n.frm.length cf,.slice ap n.prog.length cp,.int .i64 par,.int .i64 r0,.int .i64 r1,.int .i64 r2,.int .i64 r3,.int .i64 r4,.int .i64 r5,.int .i64 r6,.int .i64 r7] 64)) B vb ys [id,kind,n.frm.length] [.int .i64 id,.int .i64 kind,.int .i64 n.frm.length] _ _ _ (HW.o.grew gw) (HG.o.alloc _) rfl (by simp[go_sem]) rfl ?_ (by simp;omega)).mono ?_
 ·have h1:=HOK.o.i;have h2:=HOK.o.k;have h3:=HOK.o.m;have h4:=HN.o.id;have h5:=HN.o.kind;simp only at h4 h5;simp only[List.all_cons,List.all_nil,Bool.and_true,Bool.and_eq_true];exact⟨BG (by omega) (by omega),BG (by omega) (by omega),BG (by omega) (by omega)⟩
 rintro e W1 ⟨rfl,hg1,hk1,vb1,hw1⟩;have HW1:=hY hw1;have HG1:=hY hg1;have HK1:=hY ((CJ.ofGrew ((AA.refl W).alloc _)).trans hk1);have hbx1:=hk1.cells HBX0.o hneB (by decide);have HBX1:=hY hbx1;clear hw1 hg1 hk1;have x2:=cell_of (o:=2) HBX1.o;simp at x2;have px2:=Ad.mk (AB HBX1.o);have hl1:=A0K id kind n.frm.length;have hfl:=HOK.o.m;have HL1:=hY hl1;clear hl1
 go_wp2_with fail
 refine(EI w0 W1 B vb1 _ _ n.frm HW1.o HG1.o (HSF.o.kept HK1.o HN.o.f (XD HN.o.f)) (HSF.o.to HK1.o) (List.all_eq_true.2 fun x hx=>?_) (by rw[List.length_append,HL1.o];omega)).mono ?_
 ·have:=HOK.o.f x hx;exact BG (by omega) (by omega)
 rintro e W2 ⟨rfl,hg2,hk2,vb2,hw2⟩;have HW2:=hY hw2;have HG2:=hY hg2;have HK2:=hY (HK1.o.trans hk2);have hbx2:=hk2.cells HBX1.o hneB (by decide);have HBX2:=hY hbx2;clear hw2 hg2 hk2 hbx2 x2 px2;have x3:=cell_of (o:=3) HBX2.o;simp at x3;have px3:=Ad.mk (AB HBX2.o)
 go_wp2_with fail
 refine(Ke w0 W2 B vb2 _ _ n.prog HW2.o HG2.o (HSP.o.kept HK2.o HN.o.p (XE HN.o.p)) (HSP.o.to HK2.o) HOK.o.p (by rw[List.length_append,List.length_append,HL1.o,Oc.bes_len];omega)).mono ?_;rintro e W3 ⟨rfl,hg3,hk3,vb3,hw3⟩;have HW3:=hY hw3;have HG3:=hY hg3;have HK3:=hY (HK2.o.trans hk3);have hbx3:=hk3.cells HBX2.o hneB (by decide);have HBX3:=hY hbx3;have hpl:=IY n.prog HOK.o.p;clear hw3 hg3 hk3 hbx3 x3 px3;have x4:=cell_of (o:=4) HBX3.o;simp at x4;have px4:=Ad.mk (AB HBX3.o)
 go_wp2_with fail
 refine(CB w0 W3 B vb3 _ [par] [.int .i64 par] _ _ _ HW3.o HG3.o rfl (by simp[go_sem]) rfl ?_ (by simp only[List.length_append,HL1.o,Oc.bes_len,List.length_cons,List.length_nil];omega)).mono ?_
 ·have h1:=HOK.o.r;have h4:=HN.o.par;simp only at h4;simp only[List.all_cons,List.all_nil,Bool.and_true];exact BG (by omega) (by omega)
 rintro e W4 ⟨rfl,hg4,hk4,vb4,hw4⟩;have HW4:=hY hw4;have HG4:=hY hg4;have HK4:=hY (HK3.o.trans hk4);have hbx4:=hk4.cells HBX3.o hneB (by decide);have HBX4:=hY hbx4;clear hw4 hg4 hk4 hbx4 x4 px4;have px5:=Ad.mk (AB HBX4.o)
 go_wp2_with fail
 refine(EI w0 W4 B vb4 _ _ [r0,r1,r2,r3,r4,r5,r6,r7] HW4.o HG4.o (Pq HBX4.o) ?_ (List.all_eq_true.2 fun x hx=>?_) (by simp only[List.length_append,HL1.o,Oc.bes_len,List.length_cons,List.length_nil];omega)).mono ?_
 ·rintro b off ⟨m,k,e⟩;cases e;exact⟨.inr ⟨_,_,_,HBX4.o,by decide⟩,hneB⟩
 ·rw[←HR8.o] at hx;have:=HOK.o.o x hx;exact BG (by omega) (by omega)
 rintro e W5 ⟨rfl,hg5,hk5,vb5,hw5⟩;have HW5:=hY hw5;have HG5:=hY hg5;have HK5:=hY (HK4.o.trans hk5);clear hw5 hg5 hk5;go_wp2
 go_end0
 refine⟨rfl,HG5.o,HK5.o,vb5,?_⟩;have h1:=HN.o.id;have h2:=HN.o.kind;have h3:=HN.o.par;simp only at h1 h2 h3;rw[←Sw,h1,h2,h3,HR8.o];exact HW5.o
theorem Ab.kept{base base0 B:Nat}{W W':World}{c:BM}{n:Gr.Nd}(o:Ab base W c n)(hk:CJ base0 B W W')(hB:B<base): Ab base W' c n:=by
 refine⟨OwnAt.same o.1 fun b h=>?_,OwnAt.same o.2 fun b h=>?_⟩
 ·obtain⟨h1,cs,h2⟩:=OwnAt.block o.1 h;exact hk.2 b (AB h2) (by omega) (.inr ⟨_,_,_,h2,by decide⟩)
 ·obtain⟨h1,cs,h2⟩:=OwnAt.block o.2 h;exact hk.2 b (AB h2) (by omega) (.inr ⟨_,_,_,h2,by decide⟩)
theorem Aa.kept{base base0 B:Nat}{W W':World}{v:Value}{lc:List BM}(o:Aa base W v lc)(hk:CJ base0 B W W')(hB:B<base): Aa base W' v lc :=
 OwnAt.same o fun b h=>by
  obtain⟨h1,cs,h2⟩:=OwnAt.block o h;exact hk.2 b (AB h2) (by omega) (.inr ⟨_,_,_,h2,by decide⟩)
theorem Ah.kept{base base0 B:Nat}{W W':World}{lc:List BM}{l:List Gr.Nd}(h:Ah base W lc l)(hk:CJ base0 B W W')(hB:B<base): Ah base W' lc l :=
 BL.mono (fun c n ⟨h1,h2⟩=>⟨(h2.kept hk hB).is h1,h2.kept hk hB⟩) h
theorem Ab.apartF{base base0 B:Nat}{W:World}{c:BM}{n:Gr.Nd}(o:Ab base W c n)(hB:B<base): Apart base0 B W c.vf:=by
 rintro b off ⟨m,k,e⟩;have h:c.vf.ownBlock=some b:=by rw[e];rfl
 obtain⟨h1,cs,h2⟩:=OwnAt.block o.1 h;exact⟨.inr ⟨_,_,_,h2,by decide⟩,by omega⟩
theorem Ab.apartP{base base0 B:Nat}{W:World}{c:BM}{n:Gr.Nd}(o:Ab base W c n)(hB:B<base): Apart base0 B W c.vp:=by
 rintro b off ⟨m,k,e⟩;have h:c.vp.ownBlock=some b:=by rw[e];rfl
 obtain⟨h1,cs,h2⟩:=OwnAt.block o.2 h;exact⟨.inr ⟨_,_,_,h2,by decide⟩,by omega⟩
theorem putNd_len{n:Gr.Nd}{lp:Int}(h:Gr.OkB BF lp n): (Gr.putNd BZ n).length≤300:=by
 have h1:=IY n.prog h.p;have h2:=h.m;have h3:=h.ol;unfold Gr.putNd;simp only[List.length_append,Oc.be_len,Oc.bes_len];omega
theorem flat_len{lp:Int}: ∀{l:List Gr.Nd},(∀n∈l,Gr.OkB BF lp n)→(l.flatMap (Gr.putNd BZ)).length≤l.length*300
 | [],_=>by simp
 |n::l,h=>by
  have h1:=putNd_len (h n (List.mem_cons_self ..));have h2:=flat_len (l:=l) fun m hm=>h m (List.mem_cons_of_mem _ hm)
  rw[List.flatMap_cons,List.length_append,List.length_cons];omega
theorem safe_fits{p:List Vm.Ins}(h:Vm.safe p=true): BF p:=by
 unfold Vm.safe at h;obtain⟨c,hc⟩:=Option.isSome_iff_exists.1 h;exact Vm.checkC_fits hc
theorem A0L{l:List Gr.Nd}(hr:Gr.RightR l)(h8:∀n∈l,n.route.length=8): (Gr.putG BZ l).length≤3000:=by
 have hok:∀n∈l,Gr.OkB BF 1 n:=hr.okB (by unfold BF;rfl) (fun p hp=>safe_fits hp) h8;have hp:=Gr.normG_perm hr.ids hr.r7;have h1:=flat_len (l:=Gr.normG l) (lp:=1) fun n hn=>hok n (hp.mem_iff.1 hn)
 have h2:=hp.length_eq;have h3:=hr.len;unfold Gr.putG;rw[List.length_append,Oc.be_len];omega
theorem OwnAt.up{α:Type}{base base':Nat}{e:TypeId}{k:Nat}{enc:α→List Value}{w:World}{v:Value}{l:List α}(h:OwnAt base e k enc w v l)(hb:∀q,v.ownBlock=some q→base'≤q): OwnAt base' e k enc w v l:=by
 obtain⟨h1,h2⟩:=h;refine⟨h1,?_⟩;rcases h2 with h|⟨g,cap,cur,rfl,h3,r⟩
 ·exact .inl h
 ·exact .inr ⟨g,cap,cur,rfl,hb g rfl,r⟩
theorem A7.app{α:Type}{e:TypeId}{k:Nat}{enc:α→List Value}{B:Nat}{w0 w W W':World}{v v':Value}{l:List α}(hk:A7 B w W)(hA:Ap w0 e k enc W v l v' W')(hi:∀q,v.ownBlock=some q→w.heap.size≤q): A7 B w W' :=
 ⟨Nat.le_trans hk.1 hA.2.2.1,fun q hq hn=>(hA.2.2.2.1 q (Nat.lt_of_lt_of_le hq hk.1) fun h=>by have:=hi q h;omega).trans (hk.2 q hq hn)⟩
theorem A3T{α:Type}{e:TypeId}{k:Nat}{enc:α→List Value}{B:Nat}{w0 w W W':World}{v v':Value}{l:List α}(hk:A7 B w W)(hA:Ap w0 e k enc W v l v' W')(hi:∀q,v.ownBlock=some q→w.heap.size≤q): ∀q,v'.ownBlock=some q→w.heap.size≤q:=fun q hq=>by
 rcases hA.2.2.2.2 q hq with h|h
 ·exact hi q h
 ·exact Nat.le_trans hk.1 h
def Eb(w0 w w':World)(B:Nat)(v:Value)(r:List Val×Int×List UInt8): Prop:=OwnAt w.heap.size 128 2 encI w' v r.1∧Bn w0.heap.size B w' r.2.2∧AA w0 w'∧A7 B w w'
theorem Eb.none{w0 w w':World}{B:Nat}{r:List Val×Int×List UInt8}{e:Int}{s:List UInt8}(h:r=([],e,s))(h1:Bn w0.heap.size B w' s)(h2:AA w0 w')(h3:A7 B w w'): Eb w0 w w' B (.slice none 0 0) r:=by
 subst h;exact⟨OwnAt.nil _,h1,h2,h3⟩
theorem Eb.some{w0 w w':World}{B:Nat}{v:Value}{r:List Val×Int×List UInt8}{l:List Val}{e:Int}{s:List UInt8}(h:r=(l,e,s))(h0:OwnAt w.heap.size 128 2 encI w' v l)(h1:Bn w0.heap.size B w' s)(h2:AA w0 w')(h3:A7 B w w'): Eb w0 w w' B v r:=by
 subst h;exact⟨h0,h1,h2,h3⟩
theorem Qo(w0:World)(B:Nat)(s:List UInt8)(w:World)(h:Bn w0.heap.size B w s)(hg:AA w0 w)(hs:s.length≤1000000):
  Calls Tryz.prog 159 #[.pointer (some ⟨B,0,none⟩)] w fun e w'=>∃v,e = .returned (.tuple #[v,.int .i64 (BK s).2.1])∧Eb w0 w w' B v (BK s):=by
 have hW:=Ec w0 B s 0 24 w h hg hs;have hl1:=Dw s 0 24;have hwo:=X9 (s:=s) (a:=0) (b:=24);generalize hr:within s 0 24=r at *;obtain⟨n,e1,s1⟩:=r;simp only at hW hl1 hwo;have HW:=hY hW;have HR0:=hY hr;clear hW hr;by_cases he:e1=0
 ·subst he;obtain⟨n0,n24⟩:=hwo rfl;obtain⟨N,rfl⟩:∃N:Nat,n=N:=⟨n.toNat,by omega⟩;clear hwo;go_enter Tryz.func159,Tryz.ntmps159
  go_wp2_with (go_at_call 132;refine HW.o.mono ?_;rintro e w1 ⟨rfl,hr1,hg1,hk1⟩;(have HR1:=hY hr1);(have HG1:=hY hg1);(have HK1:=hY hk1);clear hr1 hg1 hk1)
  go_loopw [6,19] (fun v6 i wr=>∃(k:Nat) (acc:List Val) (sk:List UInt8),k≤N∧i = .int .i64 k∧acc.length=k∧CP (N-k) sk acc=CP N s1 []∧sk.length≤1000000∧OwnAt w0.heap.size 128 2 encI wr v6 acc∧Bn w0.heap.size B wr sk∧AA w0 wr∧Hid (A7 B w wr)∧Hid (∀q,v6.ownBlock=some q→w.heap.size≤q)) (fun _ i _=>N-(intOf i).toNat)
  case atStart=>exact⟨0,[],s1,Nat.zero_le _,rfl,rfl,rfl,by omega,OwnAt.nil _,HR1.o,HG1.o,HK1,hY (fun q h=>by cases h)⟩
  case round =>
   obtain⟨k,acc,sk,hk,rfl,hacc,hrd,hsk,hown,hrk,hgk,HKW,HHI⟩:=hrel;by_cases hlt:k<N
   ·have hW2:=Ec w0 B sk 0 17 wr hrk hgk hsk;have hl2:=Dw sk 0 17;obtain⟨m,hm⟩:∃m,N-k=m+1:=⟨N-k-1,by omega⟩;rw[hm] at hrd;generalize hr2:within sk 0 17=r2 at *;obtain⟨op,e2,s2⟩:=r2;simp only at hW2 hl2;have hne1:=RB hown hrk.2 (by decide);have HW2:=hY hW2;have HRD:=hY hrd;have HO:=hY hown;have HNE:=hY hne1;have HR2:=hY hr2;have HACC:=hY hacc;have HM:=hY hm;clear hW2 hrd hown hne1 hr2 hacc hm hrk hgk;by_cases he2:e2=0
    ·subst he2;have hl3:=Dw s2 (-2147483648) 2147483647;obtain⟨a,e3,s3,hr3⟩:∃a e3 s3,LJ s2=(a,e3,s3):=⟨_,_,_,rfl⟩;have hr3':within s2 (-2147483648) 2147483647=(a,e3,s3):=hr3
     have HN3:Hid (∀w2,Bn w0.heap.size B w2 s2→AA w0 w2→Calls Tryz.prog 185 #[.pointer (some ⟨B,0,none⟩)] w2 fun e w'=>e = .returned (.tuple #[.int .i64 a,.int .i64 e3])∧Bn w0.heap.size B w' s3∧AA w0 w'∧A7 B w2 w'):=hY (fun w2 h1 h2=>by
      have:=Vj w0 B s2 w2 h1 h2 (by omega);rw[hr3'] at this
      exact this)
     rw[hr3'] at hl3;simp only at hl3;have HR3:=hY hr3;clear hr3 hr3';by_cases he3:e3=0
     ·subst he3
      go_wp2_with (first
       | (go_at_call 132;refine HW2.o.mono ?_;rintro e w2 ⟨rfl,hq2,hg2,hk2⟩;(have HQ2:=hY hq2);(have HG2:=hY hg2);(have HK2:=hY hk2);clear hq2 hg2 hk2)
       | (go_at_call 185;refine(HN3.o _ HQ2.o HG2.o).mono ?_;rintro e w3 ⟨rfl,hq3,hg3,hk3⟩;(have HQ3:=hY hq3);(have HG3:=hY hg3);(have HO3:=hY ((HK2.o.trans hk3).own HO.o HNE.o));(have HK3:=hY (HKW.o.trans (HK2.o.trans hk3)));clear hq3 hg3 hk3)
       | (at_builtin;refine Am (w0:=w0) rfl (.tmp 37) (.tmp 41) 61 _ _ _ _ [(op,a)] rfl Tryz.underlying61 Wt rfl (by decide) C8 SS rfl (HO3.o.grew gw) (HG3.o.alloc _) rfl (fun j u hu=>A18 _ (op,a) _ _ rfl rfl j u (by simpa using hu)) (by simp[HACC.o];omega) (by decide) (by simp) ?_;intro v9 W9 hA9;(have hkeep9:=hA9.2.2.2.1);(have HQ9:Hid (Bn w0.heap.size B W9 s3):=hY ⟨HQ3.o.1,by rw[hkeep9 B (by have:=(Array.getElem?_eq_some_iff.1 HQ3.o.2).1;simp[go_sem];omega) (RB HO3.o HQ3.o.2 (by decide))];exact heap_alloc_old HQ3.o.2 _⟩);(have HK9:=hY (A7.app (HK3.o.trans (A7.ofGrew gw)) hA9 HHI.o));(have HHI9:=hY (A3T (HK3.o.trans (A7.ofGrew gw)) hA9 HHI.o));(have HA9:=hY hA9);clear hkeep9 hA9)
       )
      go_roundw
      case rel =>
       refine⟨k+1,acc++[(op,a)],s3,by omega,by go_num,by rw[List.length_append,HACC.o];rfl,?_,by omega,HA9.o.2.1,HQ9.o,HA9.o.1,HK9,HHI9⟩;have h1:=HRD.o;rw[SL HR2.o HR3.o] at h1;rw[←h1]
       congr 1
       have:=HM.o;omega
      case measure=>first|(simp[intOf];done)|(simp[intOf];omega)
     ·have hne3:(e3 != 0)=true:=by rw[bne_iff_ne];exact he3
      have hGe:BK s=([],e3,s3):=SN HR0.o (by rw[←HRD.o,Uu HR2.o HR3.o he3]) he3;have HGE:=hY hGe;clear hGe he3
      go_wp2_with (first
       | (go_at_call 132;refine HW2.o.mono ?_;rintro e w2 ⟨rfl,hq2,hg2,hk2⟩;(have HQ2:=hY hq2);(have HG2:=hY hg2);(have HK2:=hY hk2);clear hq2 hg2 hk2)
       | (go_at_call 185;refine(HN3.o _ HQ2.o HG2.o).mono ?_;rintro e w3 ⟨rfl,hq3,hg3,hk3⟩;(have HQ3:=hY hq3);(have HG3:=hY hg3);(have HK3:=hY hk3);clear hq3 hg3 hk3)
       )
      exact bodyPost_ret (v:=.tuple #[.slice none 0 0,.int .i64 e3]) (by simp[results,Tryz.results159,go_sem]) rfl ⟨_,by rw[HGE.o],Eb.none HGE.o HQ3.o HG3.o (HKW.o.trans (HK2.o.trans HK3.o))⟩
    ·have hne2:(e2 != 0)=true:=by rw[bne_iff_ne];exact he2
     have hGe:BK s=([],e2,s2):=SN HR0.o (by rw[←HRD.o,Ut HR2.o he2]) he2;have HGE:=hY hGe;clear hGe he2
     go_wp2_with (go_at_call 132;refine HW2.o.mono ?_;rintro e w2 ⟨rfl,hq2,hg2,hk2⟩;(have HQ2:=hY hq2);(have HG2:=hY hg2);(have HK2:=hY hk2);clear hq2 hg2 hk2)
     exact bodyPost_ret (v:=.tuple #[.slice none 0 0,.int .i64 e2]) (by simp[results,Tryz.results159,go_sem]) rfl ⟨_,by rw[HGE.o],Eb.none HGE.o HQ2.o HG2.o (HKW.o.trans HK2.o)⟩
   ·obtain rfl:k=N:=by omega
    have hrd2:CP k s1 []=(acc,0,sk):=by rw[←hrd,Nat.sub_self];rfl
    have hGe:=SQ HR0.o hrd2;have hrows:Bq wr u6 acc:=hown.rows C8;have HRO:=hY hrows;have HOW:=hY hown;have HRK:=hY hrk;have HGK:=hY hgk;clear hrd hrd2 hown hrows hrk hgk;cases hf:Co.fitsI acc
    ·rw[hf] at hGe;have hGe2:BK s=([],4,sk):=hGe.trans (if_neg (by decide));have HGE:=hY hGe2;have HF:=hY hf;clear hGe hGe2 hf
     go_wp2_with (go_at_call 173;refine(Dj _ acc _ HRO.o).mono ?_;rintro e w2 ⟨rfl,R5,n5,rfl⟩;rw[HF.o])
     exact bodyPost_ret (v:=.tuple #[.slice none 0 0,.int .i64 4]) (by simp[results,Tryz.results159,go_sem]) rfl ⟨_,by rw[HGE.o],Eb.none HGE.o (HRK.o.grew gw) (HGK.o.more _ _) (HKW.o.trans (A7.ofGrew gw))⟩
    ·rw[hf] at hGe;have hGe2:BK s=(acc,0,sk):=hGe.trans (if_pos rfl);have HGE:=hY hGe2;have HF:=hY hf;clear hGe hGe2 hf
     go_wp2_with (go_at_call 173;refine(Dj _ acc _ HRO.o).mono ?_;rintro e w2 ⟨rfl,R5,n5,rfl⟩;rw[HF.o])
     exact bodyPost_ret (v:=.tuple #[u6,.int .i64 0]) (by simp[results,Tryz.results159,go_sem]) rfl ⟨_,by rw[HGE.o],Eb.some HGE.o (OwnAt.up (HOW.o.grew gw) HHI.o) (HRK.o.grew gw) (HGK.o.more _ _) (HKW.o.trans (A7.ofGrew gw))⟩
 ·have hGe:BK s=([],e1,s1):=by rw[Qh HR0.o,if_pos he]
  have HGE:=hY hGe;have hne:(e1 != 0)=true:=by rw[bne_iff_ne];exact he
  clear hGe hwo he;go_enter Tryz.func159,Tryz.ntmps159
  go_wp2_with (go_at_call 132;refine HW.o.mono ?_;rintro e w1 ⟨rfl,hr1,hg1,hk1⟩;(have HR1:=hY hr1);(have HG1:=hY hg1);(have HK1:=hY hk1);clear hr1 hg1 hk1)
  exact bodyPost_ret (v:=.tuple #[.slice none 0 0,.int .i64 e1]) (by simp[results,Tryz.results159,go_sem]) rfl ⟨_,by rw[HGE.o],Eb.none HGE.o HR1.o HG1.o HK1.o⟩
def Cg(base A B:Nat)(W:World)(s:Gr.Rs): Prop:=base≤A∧W.heap[A]? = some (.cells #[.pointer (some ⟨B,0,none⟩),.int .i64 s.2] 174)∧Bn base B W s.1
def Bd(A B:Nat)(w w':World): Prop:=w.heap.size≤w'.heap.size∧∀q,q<w.heap.size→q≠A→q≠B→w'.heap[q]? = w.heap[q]?
theorem Bd.refl(A B:Nat)(w:World): Bd A B w w:=⟨Nat.le_refl _,fun _ _ _ _=>rfl⟩
theorem Bd.trans{A B:Nat}{a b c:World}(h:Bd A B a b)(k:Bd A B b c): Bd A B a c :=
 ⟨Nat.le_trans h.1 k.1,fun q hq h1 h2=>(k.2 q (Nat.lt_of_lt_of_le hq h.1) h1 h2).trans (h.2 q hq h1 h2)⟩
theorem Bd.ofGrew{A B:Nat}{w w':World}(g:AA w w'): Bd A B w w':=⟨g.below.size,fun q hq _ _=>g.below.block q hq⟩
theorem Bd.ofKeep{A B:Nat}{w w':World}(k:A7 B w w'): Bd A B w w':=⟨k.1,fun q hq _ h=>k.2 q hq h⟩
theorem Bd.set{A B:Nat}{w:World}{o:Nat}{v:Value}: Bd A B w (w.setCell ⟨A,o,none⟩ v):=⟨by rw[World.size_setCell];exact Nat.le_refl _,fun q hq h _=>AQ fun e=>h e.symm⟩
theorem Cg.ne{base A B:Nat}{W:World}{s:Gr.Rs}(h:Cg base A B W s): A≠B:=fun e=>by
 have h1:=h.2.1;rw[e,h.2.2.2] at h1;cases h1
theorem Cg.grew{base A B:Nat}{W W':World}{s:Gr.Rs}(h:Cg base A B W s)(g:AA W W'): Cg base A B W' s:=⟨h.1,AC g h.2.1,h.2.2.grew g⟩
theorem Cg.put{base A B:Nat}{W W1:World}{s:Gr.Rs}{z:List UInt8}{e:Int}(h:Cg base A B W s)(hr:Bn base B W1 z)(hk:A7 B W W1): W1.heap[A]? = some (.cells #[.pointer (some ⟨B,0,none⟩),.int .i64 s.2] 174)∧Cg base A B (W1.setCell ⟨A,1,none⟩ (.int .i64 e)) (z,e):=by
 have hA:W1.heap[A]? = some (.cells #[.pointer (some ⟨B,0,none⟩),.int .i64 s.2] 174):=by rw[hk.2 A (AB h.2.1) h.ne];exact h.2.1
 exact⟨hA,h.1,by rw[set_self hA];rfl,hr.1,by rw[AQ h.ne];exact hr.2⟩
theorem A3U(s:List UInt8)(a b:Int): (Gr.wn s a b).2.2.length≤s.length:=Dw s a b
theorem Cc(a b:Int)(s:Gr.Rs): (Gr.numS a b s).2.1.length≤s.1.length:=by
 unfold Gr.numS;split
 ·exact Nat.le_refl _
 ·exact A3U _ _ _
theorem Gq{a b:Int}(s:Gr.Rs)(ha:a≤0)(hb:0≤b): a≤(Gr.numS a b s).1∧(Gr.numS a b s).1≤b:=by
 unfold Gr.numS;split
 ·exact⟨ha,hb⟩
 ·unfold Gr.wn;split
  ·exact⟨ha,hb⟩
  ·split
   ·exact⟨ha,hb⟩
   ·simp only;omega
def A3V(w0 W:World)(A B:Nat)(v:Value)(s:Gr.Rs)(e:Ending)(W':World): Prop:=e = .returned v∧Cg w0.heap.size A B W' s∧AA w0 W'∧Bd A B W W'
theorem Dk(w0:World)(A B:Nat)(s:Gr.Rs)(a b:Int)(W:World)(h:Cg w0.heap.size A B W s)(hg:AA w0 W)(hs:s.1.length≤1000000):
  Calls Tryz.prog 105 #[.pointer (some ⟨A,0,none⟩),.int .i64 a,.int .i64 b] W (A3V w0 W A B (.int .i64 (Gr.numS a b s).1) (Gr.numS a b s).2):=by
 have H:=hY h;have HG:=hY hg;have c0:=cell_of (o:=0) h.2.1;have c1:=cell_of (o:=1) h.2.1;have f1:=AJ (o:=1) h.2.1;have hpA:=Ad.mk (AB h.2.1);simp at c0 c1;obtain⟨z,x⟩:=s;simp only at hs c1;by_cases he:x=0
 ·subst he;have hn:Gr.numS a b (z,0)=((within z a b).1,((within z a b).2.2,(within z a b).2.1)):=by unfold Gr.numS;rw[if_neg (by simp)];rfl
  rw[hn];have hw:=Ec w0 B z a b W h.2.2 hg hs;generalize within z a b=r at *;obtain⟨y,er,z'⟩:=r;simp only at hw ⊢;have HW:=hY hw;clear h hg hw hn;go_enter Tryz.func105,Tryz.ntmps105
  go_wp2_with (go_at_call 132;refine HW.o.mono ?_;rintro e w1 ⟨rfl,hr1,hg1,hk1⟩;obtain⟨hA1,hR1⟩:=Cg.put (e:=er) H.o hr1 hk1;(have d1:=cell_of (o:=1) hA1);(have g1:=AJ (o:=1) hA1);(have pA1:=Ad.mk (AB hA1));simp at d1;(have HR1:=hY hR1);(have HG1:=hY hg1);(have HK1:=hY hk1);clear hr1 hg1 hk1 hA1 hR1)
  go_ret;exact⟨rfl,HR1.o,HG1.o.set H.o.1 _,(Bd.ofKeep HK1.o).trans Bd.set⟩
 ·rw[Gr.numS_err a b (s:=(z,x)) he];have he2:(x != 0)=true:=by rw[bne_iff_ne];exact he
  clear h hg he;go_enter Tryz.func105,Tryz.ntmps105;go_wp2;go_ret;exact⟨rfl,H.o,HG.o,Bd.refl _ _ _⟩
theorem Jp(a b:Int): ∀(k:Nat) (s:Gr.Rs),Gr.listS a b (k+1) s=((Gr.listS a b k s).1++[(Gr.numS a b (Gr.listS a b k s).2).1],(Gr.numS a b (Gr.listS a b k s).2).2)
 | 0,s=>rfl
 |k+1,s=>by
  have ih:=Jp a b k (Gr.numS a b s).2;rw[Gr.listS,ih];rfl
theorem D7(a b:Int): ∀(k:Nat) (s:Gr.Rs),(Gr.listS a b k s).1.length=k∧(Gr.listS a b k s).2.1.length≤s.1.length
 | 0,s=>⟨rfl,Nat.le_refl _⟩
 |k+1,s=>by
  obtain⟨h1,h2⟩:=D7 a b k (Gr.numS a b s).2;have h3:=Cc a b s;refine⟨?_,?_⟩
  ·rw[Gr.listS,List.length_cons,h1]
  ·rw[Gr.listS];exact Nat.le_trans h2 h3
theorem OwnAt.keep2{α:Type}{base base0 A B:Nat}{e:TypeId}{k:Nat}{enc:α→List Value}{w w':World}{v:Value}{l:List α}{s:Gr.Rs}(h:OwnAt base e k enc w v l)(hk:Bd A B w w')(hr:Cg base0 A B w s)(h1:e≠174:=by decide)(h2:e≠204:=by decide): OwnAt base e k enc w' v l :=
 OwnAt.same h fun b hb=>by
  obtain⟨_,cs,hc⟩:=OwnAt.block h hb;refine hk.2 b (AB hc) (fun q=>?_) fun q=>?_
  ·subst q;have:=hr.2.1;rw[hc] at this;cases this;exact h1 rfl
  ·subst q;have:=hr.2.2.2;rw[hc] at this;cases this;exact h2 rfl
theorem Cg.app{α:Type}{base base0 A B:Nat}{e:TypeId}{k:Nat}{enc:α→List Value}{w0 W W':World}{v v':Value}{l l2:List α}{s:Gr.Rs}(h:Cg base A B W s)(ho:OwnAt base0 e k enc W v l)(hA:Ap w0 e k enc W v l2 v' W')(h1:174≠e:=by decide)(h2:204≠e:=by decide): Cg base A B W' s :=
 ⟨h.1,by rw[hA.2.2.2.1 A (AB h.2.1) (OwnAt.other ho h.2.1 h1)];exact h.2.1,h.2.2.1,by rw[hA.2.2.2.1 B (AB h.2.2.2) (OwnAt.other ho h.2.2.2 h2)];exact h.2.2.2⟩
theorem Bd.app{α:Type}{e:TypeId}{k:Nat}{enc:α→List Value}{A B:Nat}{w0 w W W':World}{v v':Value}{l:List α}(hk:Bd A B w W)(hA:Ap w0 e k enc W v l v' W')(hi:∀q,v.ownBlock=some q→w.heap.size≤q): Bd A B w W'∧∀q,v'.ownBlock=some q→w.heap.size≤q :=
 ⟨⟨Nat.le_trans hk.1 hA.2.2.1,fun q hq h1 h2=>(hA.2.2.2.1 q (Nat.lt_of_lt_of_le hq hk.1) fun h=>by have:=hi q h;omega).trans (hk.2 q hq h1 h2)⟩,fun q hq=>by
  rcases hA.2.2.2.2 q hq with h|h
  ·exact hi q h
  ·exact Nat.le_trans hk.1 h⟩
def A3W(w0 W:World)(A B:Nat)(l:List Int)(s:Gr.Rs)(e:Ending)(W':World): Prop:=∃v,e = .returned v∧OwnAt W.heap.size 3 1 Cx W' v l∧Cg w0.heap.size A B W' s∧AA w0 W'∧Bd A B W W'
theorem U4(w0:World)(A B:Nat)(s:Gr.Rs)(m a b:Int)(W:World)(h:Cg w0.heap.size A B W s)(hg:AA w0 W)(hs:s.1.length≤1000000)(hm:0≤m)(hm2:m≤1000):
  Calls Tryz.prog 133 #[.pointer (some ⟨A,0,none⟩),.int .i64 m,.int .i64 a,.int .i64 b] W (A3W w0 W A B (Gr.listS a b (Gr.numS 0 m s).1.toNat (Gr.numS 0 m s).2).1 (Gr.listS a b (Gr.numS 0 m s).1.toNat (Gr.numS 0 m s).2).2):=by
 have hn:=Dk w0 A B s 0 m W h hg hs;have hr:=Gq (a:=0) (b:=m) s (by omega) hm;have hl:=Cc 0 m s;generalize Gr.numS 0 m s=r at *;obtain⟨n,s1⟩:=r;simp only at hn hr hl ⊢;obtain⟨N,rfl⟩:∃N:Nat,n=N:=⟨n.toNat,by omega⟩;rw[Int.toNat_natCast];have HN:=hY hn;have hBlt:=AB h.2.2.2;clear h hg hn;go_enter Tryz.func133,Tryz.ntmps133
 go_wp2_with (go_at_call 105;refine HN.o.mono ?_;rintro e w1 ⟨rfl,hr1,hg1,hk1⟩;(have HR1:=hY hr1);(have HG1:=hY hg1);(have HK1:=hY hk1);clear hr1 hg1 hk1)
 go_loopg [9,13] N (fun gg s9 s13 wr=>∃(k:Nat) (vk:Value),k≤N∧N-k≤gg∧s13 = .int .i64 k∧vk=s9∧Hid (OwnAt w0.heap.size 3 1 Cx wr vk (Gr.listS a b k s1).1)∧Hid (Cg w0.heap.size A B wr (Gr.listS a b k s1).2)∧Hid (AA w0 wr)∧Hid (Bd A B W wr)∧Hid (∀q,vk.ownBlock=some q→W.heap.size≤q))
 case atStart=>exact⟨0,_,Nat.zero_le _,by omega,rfl,rfl,hY (OwnAt.nil _),HR1,HG1,HK1,hY fun q h=>by cases h⟩
 case round =>
  obtain⟨k,vk,hk,hgg,rfl,rfl,HO,HR,HG,HK,HI⟩:=hrel;obtain⟨hl1,hl2⟩:=D7 a b k s1;by_cases hlt:k<N
  ·have hsc:=Jp a b k s1;have hnum:=Dk w0 A B (Gr.listS a b k s1).2 a b wr HR.o HG.o (by omega);have HSC:=hY hsc;have HNUM:=hY hnum;obtain⟨ak,ck,rfl⟩:=(HO.o.rows Ar).len;have HL1:=hY hl1;clear hsc hnum hl1 hl2;generalize Gr.numS a b (Gr.listS a b k s1).2=y at *;obtain⟨y1,y2⟩:=y;simp only at HNUM HSC;generalize hLS:Gr.listS a b k s1=LS at *;have HLS:=hY hLS;clear hLS
   go_wp2_with (first
    | (go_at_call 105;refine HNUM.o.mono ?_;rintro e w2 ⟨rfl,hr2,hg2,hk2⟩;(have HR2:=hY hr2);(have HG2:=hY hg2);(have HK2:=hY hk2);(have HO2:=hY (OwnAt.keep2 HO.o hk2 HR.o));clear hr2 hg2 hk2)
    | (at_builtin;go_loud (refine Am (w0:=w0) rfl (.tmp 15) (.tmp 20) 40 _ _ _ _ [y1] rfl Tryz.underlying40 NM rfl (by decide) Ar Ic rfl (OwnAt.grew HO2.o gw) (HG2.o.trans gw) rfl (NN _ _ _ _ rfl (by simp[go_sem])) (by rw[HL1.o];simp;omega) (by decide) (by simp) ?_;intro v5 W5 hA;(have HA:=hY hA);clear hA)))
   obtain⟨q4,q5⟩:=Bd.app (HK.o.trans (HK2.o.trans (Bd.ofGrew gw))) HA.o HI.o;have q2:=Cg.app (HR2.o.grew gw) (OwnAt.grew HO2.o gw) HA.o;have Q2:=hY q2;have Q4:=hY q4;have Q5:=hY q5;clear q2 q4 q5
   go_roundg (N-(k+1))
   case measure=>omega
   case rel=>exact⟨k+1,_,by omega,by omega,by go_num,rfl,hY (by rw[HSC.o];exact HA.o.2.1),hY (by rw[HSC.o];exact Q2.out),hY HA.o.1,Q4,Q5⟩
  ·obtain rfl:k=N:=by omega
   obtain⟨ak,ck,rfl⟩:=(HO.o.rows Ar).len;go_wp2;go_ret;exact⟨_,rfl,OwnAt.up HO.o HI.o,HR.o,HG.o,HK.o⟩
theorem Cg.setOther{base A B C:Nat}{W:World}{s:Gr.Rs}{o:Nat}{v:Value}(h:Cg base A B W s)(hA:C≠A)(hB:C≠B): Cg base A B (W.setCell ⟨C,o,none⟩ v) s :=
 ⟨h.1,by rw[AQ hA];exact h.2.1,h.2.2.1,by rw[AQ hB];exact h.2.2.2⟩
theorem OwnAt.setOther{α:Type}{base C:Nat}{e t:TypeId}{k:Nat}{enc:α→List Value}{W:World}{v x:Value}{l:List α}{o:Nat}{c:Array Value}{f:Nat×Nat}(h:OwnAt base e k enc W v l)(hC:W.heap[C]? = some (.cells c t f))(ht:t≠e): OwnAt base e k enc (W.setCell ⟨C,o,none⟩ x) v l :=
 OwnAt.same h fun b hb=>AQ fun q=>by
  subst q;exact RB h hC ht hb
def A3X(w0 W:World)(A B:Nat)(l:List Vm.Ins)(s:Gr.Rs)(e:Ending)(W':World): Prop:=∃v,e = .returned v∧OwnAt W.heap.size 128 2 encI W' v l∧Cg w0.heap.size A B W' s∧AA w0 W'∧Bd A B W W'
theorem U5(w0:World)(A B:Nat)(s:Gr.Rs)(W:World)(h:Cg w0.heap.size A B W s)(hg:AA w0 W)(hs:s.1.length≤1000000):
  Calls Tryz.prog 134 #[.pointer (some ⟨A,0,none⟩)] W (A3X w0 W A B (Gr.progS BK s).1 (Gr.progS BK s).2):=by
 have H:=hY h;have HG:=hY hg;have c0:=cell_of (o:=0) h.2.1;have c1:=cell_of (o:=1) h.2.1;have hpA:=Ad.mk (AB h.2.1);simp at c0 c1;obtain⟨z,x⟩:=s;simp only at hs c1;by_cases he:x=0
 ·subst he;have hn:Gr.progS BK (z,0)=((BK z).1,((BK z).2.2,(BK z).2.1)):=by unfold Gr.progS;rw[if_neg (by simp)]
  rw[hn];have hw:=Qo w0 B z W h.2.2 hg hs;generalize BK z=r at *;obtain⟨y,er,z'⟩:=r;simp only at hw ⊢;have HW:=hY hw;clear h hg hw hn;go_enter Tryz.func134,Tryz.ntmps134
  go_wp2_with (go_at_call 159;refine HW.o.mono ?_;rintro e w1 ⟨v1,rfl,ho1,hr1,hg1,hk1⟩;simp only at ho1 hr1;obtain⟨a1,cc1,rfl⟩:=(ho1.rows C8).len;obtain⟨hA1,hR1⟩:=Cg.put (e:=er) H.o hr1 hk1;(have d1:=cell_of (o:=1) hA1);(have g1:=AJ (o:=1) hA1);(have pA1:=Ad.mk (AB hA1));simp at d1;(have HO1:=hY (OwnAt.setOther (o:=1) (x:=.int .i64 er) ho1 hA1 (by decide)));(have HR1:=hY hR1);(have HG1:=hY hg1);(have HK1:=hY hk1);clear ho1 hr1 hg1 hk1 hA1 hR1)
  go_ret;exact⟨_,rfl,HO1.o,HR1.o,HG1.o.set H.o.1 _,(Bd.ofKeep HK1.o).trans Bd.set⟩
 ·have hn:Gr.progS BK (z,x)=([],(z,x)):=by unfold Gr.progS;rw[if_pos he]
  rw[hn];have he2:(x != 0)=true:=by rw[bne_iff_ne];exact he
  clear h hg he hn;go_enter Tryz.func134,Tryz.ntmps134;go_wp2;go_ret;exact⟨_,rfl,OwnAt.nil _,H.o,HG.o,Bd.refl _ _ _⟩
def GL(s:Gr.Rs)(fine:Bool): Int:=if s.2≠0 then s.2 else if decide (0<s.1.length) || !fine then 4 else 0
theorem Pm(base A B:Nat)(s:Gr.Rs)(fine:Bool)(W:World)(h:Cg base A B W s):
  Calls Tryz.prog 107 #[.pointer (some ⟨A,0,none⟩),.bool fine] W fun e w'=>e = .returned (.int .i64 (GL s fine))∧w'=W:=by
 have c0:=cell_of (o:=0) h.2.1;have c1:=cell_of (o:=1) h.2.1;have hpA:=Ad.mk (AB h.2.1);simp at c0 c1;obtain⟨z,x⟩:=s;simp only at c1;have hL:=TU base B z W h.2.2;have HL:=hY hL;clear h hL;by_cases he:x=0
 ·subst he;by_cases hz:0<z.length
  ·have hn:GL (z,0) fine=4:=by unfold GL;rw[if_neg (by simp)];simp[hz]
   rw[hn];have hz':(0:Int)<(z.length:Int):=by omega
   clear hn;go_enter Tryz.func107,Tryz.ntmps107
   go_wp2_with (go_at_call 135;refine HL.o.mono ?_;rintro e w1 ⟨rfl,rfl⟩)
   go_ret;exact⟨rfl,rfl⟩
  ·have hz':¬(0:Int)<(z.length:Int):=by omega
   cases fine with
   |true =>
    have hn:GL (z,0) true=0:=by unfold GL;rw[if_neg (by simp)];simp[hz]
    rw[hn];clear hn;go_enter Tryz.func107,Tryz.ntmps107
    go_wp2_with (go_at_call 135;refine HL.o.mono ?_;rintro e w1 ⟨rfl,rfl⟩)
    go_ret
    exact⟨rfl,rfl⟩
   |false =>
    have hn:GL (z,0) false=4:=by unfold GL;rw[if_neg (by simp)];simp
    rw[hn];clear hn;go_enter Tryz.func107,Tryz.ntmps107
    go_wp2_with (go_at_call 135;refine HL.o.mono ?_;rintro e w1 ⟨rfl,rfl⟩)
    go_ret;exact⟨rfl,rfl⟩
 ·have he2:(x != 0)=true:=by rw[bne_iff_ne];exact he
  have hn:GL (z,x) fine=x:=by unfold GL;rw[if_pos he]
  rw[hn];clear hn he;go_enter Tryz.func107,Tryz.ntmps107;go_wp2;go_ret;exact⟨rfl,rfl⟩
def Du(id kind:Int)(vf vp:Value)(par:Int)(rs:List Int): Array Value:=#[.int .i64 id,.int .i64 kind,vf,vp,.int .i64 par]++(rs.map (Value.int .i64)).toArray
theorem MH(id kind:Int)(vf vp:Value)(par:Int)(rs:List Int)(k:Nat)(y:Int): (Du id kind vf vp par rs).setIfInBounds (5+k) (.int .i64 y)=Du id kind vf vp par (rs.set k y):=by
 unfold Du;apply Array.ext';simp only[Array.toList_setIfInBounds,Array.toList_append,List.map_set];rw[List.set_append_right _ _ (by simp)];simp
theorem MI(id kind:Int)(vf vp:Value)(par:Int)(rs:List Int)(k:Nat)(h:k<rs.length): (Du id kind vf vp par rs)[5+k]? = some (.int .i64 rs[k]):=by
 unfold Du;rw[Array.getElem?_append_right (by simp)];simp[h]
def Si(l:List Int): List Int:=l++List.replicate (8-l.length) 0
theorem Z8{l:List Int}(h:l.length≤8): (Si l).length=8:=by unfold Si;rw[List.length_append,List.length_replicate];omega
theorem Z9{l:List Int}{y:Int}(h:l.length<8): (Si l).set l.length y=Si (l++[y]):=by
 unfold Si;rw[List.set_append_right _ _ (Nat.le_refl _),Nat.sub_self,List.length_append,List.append_assoc];obtain⟨m,hm⟩:∃m,8-l.length=m+1:=⟨7-l.length,by omega⟩;rw[hm,show 8-(l.length+[y].length)=m by simp;omega];rfl
theorem Bd.setNew{A B C:Nat}{w W:World}{o:Nat}{v:Value}(h:Bd A B w W)(hC:w.heap.size≤C): Bd A B w (W.setCell ⟨C,o,none⟩ v) :=
 ⟨by rw[World.size_setCell];exact h.1,fun q hq h1 h2=>by rw[AQ (show C≠q by omega)];exact h.2 q hq h1 h2⟩
theorem eight(l:List Int)(h:l.length=8): ∃o0 o1 o2 o3 o4 o5 o6 o7,l=[o0,o1,o2,o3,o4,o5,o6,o7]:=by
 match l,h with
 | [o0,o1,o2,o3,o4,o5,o6,o7],_=>exact⟨o0,o1,o2,o3,o4,o5,o6,o7,rfl⟩
def A0A(w0 W:World)(A B:Nat)(n:Gr.Nd)(s:Gr.Rs)(e:Ending)(W':World): Prop:=∃c:BM,e = .returned (.agg #[.int .i64 c.id,.int .i64 c.kind,.slice c.af c.nf c.cf,.slice c.ap c.np c.cp,.int .i64 c.par,.int .i64 c.r0,.int .i64 c.r1,.int .i64 c.r2,.int .i64 c.r3,.int .i64 c.r4,.int .i64 c.r5,.int .i64 c.r6,.int .i64 c.r7])∧A9 W' c n∧Ab W.heap.size W' c n∧Cg w0.heap.size A B W' s∧AA w0 W'∧Bd A B W W'
theorem A4C{W:World}{q:Nat}{t:TypeId}{u0 u1 u2 u3 u4 u5 u6 u7 u8 u9 u10 u11 u12:Value}(h:W.heap[q]? = some (.cells #[u0,u1,u2,u3,u4,u5,u6,u7,u8,u9,u10,u11,u12] t))(v0 v1 v2 v3 v4 v5 v6 v7 v8 v9 v10 v11 v12:Value): (((((((((((((W.setCell ⟨q,0,none⟩ v0).setCell ⟨q,1,none⟩ v1).setCell ⟨q,2,none⟩ v2).setCell ⟨q,3,none⟩ v3).setCell ⟨q,4,none⟩ v4).setCell ⟨q,5,none⟩ v5).setCell ⟨q,6,none⟩ v6).setCell ⟨q,7,none⟩ v7).setCell ⟨q,8,none⟩ v8).setCell ⟨q,9,none⟩ v9).setCell ⟨q,10,none⟩ v10).setCell ⟨q,11,none⟩ v11).setCell ⟨q,12,none⟩ v12).heap[q]? = some (.cells #[v0,v1,v2,v3,v4,v5,v6,v7,v8,v9,v10,v11,v12] t):=by
 have h0:=set_self (o:=0) (v:=v0) h;simp at h0;have h1:=set_self (o:=1) (v:=v1) h0;simp at h1;have h2:=set_self (o:=2) (v:=v2) h1;simp at h2;have h3:=set_self (o:=3) (v:=v3) h2;simp at h3;have h4:=set_self (o:=4) (v:=v4) h3;simp at h4;have h5:=set_self (o:=5) (v:=v5) h4;simp at h5;have h6:=set_self (o:=6) (v:=v6) h5;simp at h6;have h7:=set_self (o:=7) (v:=v7) h6;simp at h7;have h8:=set_self (o:=8) (v:=v8) h7;simp at h8;have h9:=set_self (o:=9) (v:=v9) h8;simp at h9;have h10:=set_self (o:=10) (v:=v10) h9;simp at h10;have h11:=set_self (o:=11) (v:=v11) h10;simp at h11;have h12:=set_self (o:=12) (v:=v12) h11;simp at h12;exact h12
theorem A0B{W:World}{tmps:Array Value}{q:Nat}{id kind par o0 o1 o2 o3 o4 o5 o6 o7:Int}{vf vp:Value}(hs:tmps.size=32)(ht:tmps[4]? = some (.pointer (some ⟨q,0,none⟩)))(h:W.heap[q]? = some (.cells #[.int .i64 id,.int .i64 kind,vf,vp,.int .i64 par,.int .i64 o0,.int .i64 o1,.int .i64 o2,.int .i64 o3,.int .i64 o4,.int .i64 o5,.int .i64 o6,.int .i64 o7] 64)):
  (results Tryz.f106 tmps).run Tryz.prog W = .ok (.agg #[.int .i64 id,.int .i64 kind,vf,vp,.int .i64 par,.int .i64 o0,.int .i64 o1,.int .i64 o2,.int .i64 o3,.int .i64 o4,.int .i64 o5,.int .i64 o6,.int .i64 o7]) W:=by
 have c0:=cell_of (o:=0) h;have c1:=cell_of (o:=1) h;have c2:=cell_of (o:=2) h;have c3:=cell_of (o:=3) h;have c4:=cell_of (o:=4) h;have c5:=cell_of (o:=5) h;have c6:=cell_of (o:=6) h;have c7:=cell_of (o:=7) h;have c8:=cell_of (o:=8) h;have c9:=cell_of (o:=9) h;have c10:=cell_of (o:=10) h;have c11:=cell_of (o:=11) h;have c12:=cell_of (o:=12) h;have ht2:tmps.getD 4 undef = .pointer (some ⟨q,0,none⟩):=by rw[Array.getD_eq_getD_getElem?,ht];rfl
 simp at c0 c1 c2 c3 c4 c5 c6 c7 c8 c9 c10 c11 c12;simp[results,Tryz.results106,go_sem,ht,c0,c1,c2,c3,c4,c5,c6,c7,c8,c9,c10,c11,c12]
theorem Sj{w0 W W':World}{A B:Nat}(c:BM){n:Gr.Nd}{s:Gr.Rs}(hi:n.id=c.id)(hk:n.kind=c.kind)(hp:n.par=c.par)(hr:n.route=[c.r0,c.r1,c.r2,c.r3,c.r4,c.r5,c.r6,c.r7])
  (o1:OwnAt W.heap.size 3 1 Cx W' c.vf n.frm) (o2:OwnAt W.heap.size 128 2 encI W' c.vp n.prog) (h1:Cg w0.heap.size A B W' s) (h2:AA w0 W') (h3:Bd A B W W'):A0A w0 W A B n s (.returned (.agg #[.int .i64 c.id,.int .i64 c.kind,.slice c.af c.nf c.cf,.slice c.ap c.np c.cp,.int .i64 c.par,.int .i64 c.r0,.int .i64 c.r1,.int .i64 c.r2,.int .i64 c.r3,.int .i64 c.r4,.int .i64 c.r5,.int .i64 c.r6,.int .i64 c.r7])) W' :=
 ⟨c,rfl,⟨hi,hk,o1.rows Ar,o2.rows C8,hp,hr,OwnAt.cap o1⟩,⟨o1,o2⟩,h1,h2,h3⟩
theorem U6(w0:World)(A B:Nat)(s:Gr.Rs)(lp:Int)(hlp:lp≤0∨lp≤3)(W:World)(h:Cg w0.heap.size A B W s)(hg:AA w0 W)(hs:s.1.length≤1000000):
  Calls Tryz.prog 106 #[.pointer (some ⟨A,0,none⟩),.int .i64 lp] W (A0A w0 W A B (Gr.nodeS BK lp s).1 (Gr.nodeS BK lp s).2):=by
 have hAlt:=AB h.2.1;have hBlt:=AB h.2.2.2;have hAB:=h.ne;have HH:=hY h;have HG:=hY hg;clear h hg;have n1:=Dk w0 A B s 0 7;have l1:=Cc 0 7 s;obtain⟨id,s1,e1⟩:∃x t,Gr.numS 0 7 s=(x,t):=⟨_,_,rfl⟩;rw[e1] at n1 l1;have n2:=Dk w0 A B s1 0 2;have l2:=Cc 0 2 s1;obtain⟨kind,s2,e2⟩:∃x t,Gr.numS 0 2 s1=(x,t):=⟨_,_,rfl⟩;rw[e2] at n2 l2;have n3:=U4 w0 A B s2 3 0 7;have l3:=(D7 0 7 (Gr.numS 0 3 s2).1.toNat (Gr.numS 0 3 s2).2).2;have l3':=Cc 0 3 s2;obtain⟨fr,s3,e3⟩:∃x t,Gr.listS 0 7 (Gr.numS 0 3 s2).1.toNat (Gr.numS 0 3 s2).2=(x,t):=⟨_,_,rfl⟩;rw[e3] at n3 l3;have n4:=U5 w0 A B s3;have l4:=Pd s3;obtain⟨pr,s4,e4⟩:∃x t,Gr.progS BK s3=(x,t):=⟨_,_,rfl⟩;rw[e4] at n4 l4;have n5:=Dk w0 A B s4 lp 3;have l5:=Cc lp 3 s4;obtain⟨par,s5,e5⟩:∃x t,Gr.numS lp 3 s4=(x,t):=⟨_,_,rfl⟩;rw[e5] at n5 l5
 have hres:Gr.nodeS BK lp s=(⟨id,kind,fr,pr,par,(Gr.listS 0 2 8 s5).1⟩,(Gr.listS 0 2 8 s5).2):=by
  unfold Gr.nodeS;simp only[e1,e2,e3,e4,e5]
 rw[hres];simp only at n1 n2 n3 n4 n5 l1 l2 l3 l4 l5;have N1:=hY n1;have N2:=hY n2;have N3:=hY n3;have N4:=hY n4;have N5:=hY n5;clear hres e1 e2 e3 e4 e5 n1 n2 n3 n4 n5;have HT4:=hY (AO W (.cells #[.int .i64 0,.int .i64 0,.slice none 0 0,.slice none 0 0,.int .i64 0,.int .i64 0,.int .i64 0,.int .i64 0,.int .i64 0,.int .i64 0,.int .i64 0,.int .i64 0,.int .i64 0] 64) _ rfl);go_enter Tryz.func106,Tryz.ntmps106
 go_wp2_with fail
 refine(N1.out _ (HH.o.grew gw) (HG.o.trans gw) hs).mono ?_;rintro e W1 ⟨rfl,r1,g1,k1⟩;have R1:=hY r1;have G1:=hY g1;have K1:=hY k1;clear r1 g1 k1
 go_wp2_with fail
 refine(N2.out _ R1.out G1.out (by omega)).mono ?_;rintro e W2 ⟨rfl,r2,g2,k2⟩;have R2:=hY r2;have G2:=hY g2;have K2:=hY (K1.out.trans k2);have z1:=k2.1;have z2:=K1.out.1;rw[World.size_alloc] at z2;clear r2 g2 k2;have h5:=AO W2 (.cells #[.int .i64 id,.int .i64 kind,.slice none 0 0,.slice none 0 0,.int .i64 0,.int .i64 0,.int .i64 0,.int .i64 0,.int .i64 0,.int .i64 0,.int .i64 0,.int .i64 0,.int .i64 0] 64) _ rfl;have H5:=hY h5;clear h5
 go_wp2_with fail
 refine(N3.out _ (R2.out.grew gw) (G2.out.trans gw) (by omega) (by decide) (by decide)).mono ?_;rintro e W3 ⟨vf,rfl,o3,r3,g3,k3⟩;have h53:=k3.2 W2.heap.size (by rw[World.size_alloc];omega) (by omega) (by omega);rw[H5.o] at h53;obtain⟨af,cf,rfl⟩:=(o3.rows Ar).len;have z3:=k3.1;rw[World.size_alloc] at z3;have q2:=cell_of (o:=2) h53;have f2:=AJ (o:=2) h53;have p2:=Ad.mk (AB h53);simp at q2;have R3:=hY r3;have G3:=hY g3;have K3:=hY ((K2.out.trans (Bd.ofGrew gw)).trans k3);have O3:=hY o3;have H53:=hY h53;clear o3 r3 g3 k3 h53;have hTA:W2.heap.size≠A:=by omega
 have hTB:W2.heap.size≠B:=by omega
 have hT0:w0.heap.size≤W2.heap.size:=G2.out.below.size;have hTW:(W.alloc (.cells #[.int .i64 0,.int .i64 0,.slice none 0 0,.slice none 0 0,.int .i64 0,.int .i64 0,.int .i64 0,.int .i64 0,.int .i64 0,.int .i64 0,.int .i64 0,.int .i64 0,.int .i64 0] 64)).heap.size≤W2.heap.size:=by rw[World.size_alloc];omega
 have R3s:=hY (Cg.setOther (o:=2) (v:=.slice af fr.length cf) R3.out hTA hTB);have G3s:=hY (G3.out.set (o:=2) hT0 (.slice af fr.length cf));have K3s:=hY (Bd.setNew (o:=2) (v:=.slice af fr.length cf) K3.out hTW);have O3s:=hY (OwnAt.setOther (o:=2) (x:=.slice af fr.length cf) O3.out H53.o (by decide));have h5s:(W3.setCell ⟨W2.heap.size,2,none⟩ (.slice af fr.length cf)).heap[W2.heap.size]? = some (.cells #[.int .i64 id,.int .i64 kind,.slice af fr.length cf,.slice none 0 0,.int .i64 0,.int .i64 0,.int .i64 0,.int .i64 0,.int .i64 0,.int .i64 0,.int .i64 0,.int .i64 0,.int .i64 0] 64):=by rw[set_self H53.o];rfl
 have H5s:=hY h5s;clear h5s
 go_wp2_with fail
 clear q2 f2 p2;refine(N4.out _ R3s.out G3s.out (by omega)).mono ?_;rintro e W4 ⟨vp,rfl,o4,r4,g4,k4⟩;obtain⟨ap,cp,rfl⟩:=(o4.rows C8).len;have h54:=k4.2 W2.heap.size (AB H5s.o) hTA hTB;rw[H5s.o] at h54;have q3:=cell_of (o:=3) h54;have f3:=AJ (o:=3) h54;have p3:=Ad.mk (AB h54);simp at q3;have R4s:=hY (Cg.setOther (o:=3) (v:=.slice ap pr.length cp) r4 hTA hTB);have G4s:=hY (g4.set (o:=3) hT0 (.slice ap pr.length cp));have K4s:=hY (Bd.setNew (o:=3) (v:=.slice ap pr.length cp) (K3s.out.trans k4) hTW);have O34:=hY (OwnAt.setOther (o:=3) (x:=.slice ap pr.length cp) (OwnAt.keep2 O3s.out k4 R3s.out) h54 (by decide));have O4s:=hY (OwnAt.setOther (o:=3) (x:=.slice ap pr.length cp) o4 h54 (by decide));have h5t:(W4.setCell ⟨W2.heap.size,3,none⟩ (.slice ap pr.length cp)).heap[W2.heap.size]? = some (.cells #[.int .i64 id,.int .i64 kind,.slice af fr.length cf,.slice ap pr.length cp,.int .i64 0,.int .i64 0,.int .i64 0,.int .i64 0,.int .i64 0,.int .i64 0,.int .i64 0,.int .i64 0,.int .i64 0] 64):=by rw[set_self h54];rfl
 have H5t:=hY h5t;have z4:=k4.1;rw[World.size_setCell] at z4;clear o4 r4 g4 k4 h54 h5t
 go_wp2_with fail
 clear q3 f3 p3;refine(N5.out _ R4s.out G4s.out (by omega)).mono ?_;rintro e W5 ⟨rfl,r5,g5,k5⟩;have h55:=k5.2 W2.heap.size (AB H5t.o) hTA hTB;rw[H5t.o] at h55;have q4:=cell_of (o:=4) h55;have f4:=AJ (o:=4) h55;have p4:=Ad.mk (AB h55);simp at q4;have R5s:=hY (Cg.setOther (o:=4) (v:=.int .i64 par) r5 hTA hTB);have G5s:=hY (g5.set (o:=4) hT0 (.int .i64 par));have K5s:=hY (Bd.setNew (o:=4) (v:=.int .i64 par) (K4s.out.trans k5) hTW);have O35:=hY (OwnAt.low (base':=W.heap.size) (OwnAt.setOther (o:=4) (x:=.int .i64 par) (OwnAt.keep2 O34.out k5 R4s.out) h55 (by decide)) (by rw[World.size_alloc];omega));have O45:=hY (OwnAt.low (base':=W.heap.size) (OwnAt.setOther (o:=4) (x:=.int .i64 par) (OwnAt.keep2 O4s.out k5 R4s.out) h55 (by decide)) (by rw[World.size_setCell];omega));have h5u:(W5.setCell ⟨W2.heap.size,4,none⟩ (.int .i64 par)).heap[W2.heap.size]? = some (.cells (Du id kind (.slice af fr.length cf) (.slice ap pr.length cp) par (Si (Gr.listS 0 2 0 s5).1)) 64):=by rw[set_self h55];rfl
 have H5u:=hY h5u;clear r5 g5 k5 h55 h5u;go_wp2
 go_loopg [22] 8 (fun gg s22 wr=>∃k:Nat,k≤8∧8-k≤gg∧s22 = .int .i64 k∧Hid (Cg w0.heap.size A B wr (Gr.listS 0 2 k s5).2)∧Hid (AA w0 wr)∧Hid (Bd A B (W.alloc (.cells #[.int .i64 0,.int .i64 0,.slice none 0 0,.slice none 0 0,.int .i64 0,.int .i64 0,.int .i64 0,.int .i64 0,.int .i64 0,.int .i64 0,.int .i64 0,.int .i64 0,.int .i64 0] 64)) wr)∧Hid (wr.heap[W2.heap.size]? = some (.cells (Du id kind (.slice af fr.length cf) (.slice ap pr.length cp) par (Si (Gr.listS 0 2 k s5).1)) 64))∧Hid (OwnAt W.heap.size 3 1 Cx wr (.slice af fr.length cf) fr)∧Hid (OwnAt W.heap.size 128 2 encI wr (.slice ap pr.length cp) pr))
 case atStart=>exact⟨0,by omega,by omega,rfl,R5s,G5s,K5s,H5u,O35,O45⟩
 case round =>
  obtain⟨k,hk,hgg,rfl,HR,HGr,HK,HT,HF,HP⟩:=hrel;obtain⟨hl1,hl2⟩:=D7 0 2 k s5;by_cases hlt:k<8
  ·have hsc:=Jp 0 2 k s5;have hnum:=Dk w0 A B (Gr.listS 0 2 k s5).2 0 2 wr HR.o HGr.o (by omega);have HSC:=hY hsc;have HNUM:=hY hnum;have HL1:=hY hl1;clear hsc hnum hl1 hl2;generalize Gr.numS 0 2 (Gr.listS 0 2 k s5).2=y at *;obtain⟨y1,y2⟩:=y;simp only at HNUM HSC;generalize hLS:Gr.listS 0 2 k s5=LS at *;have HLS:=hY hLS;clear hLS
   go_wp2_with (go_at_call 105;refine HNUM.o.mono ?_;rintro e W6 ⟨rfl,r6,g6,k6⟩;(have h56:=k6.2 W2.heap.size (AB HT.o) hTA hTB);rw[HT.o] at h56;(have q6:=cell_of (o:=5+k) h56);rw[MI _ _ _ _ _ _ _ (by rw[Z8 (by rw[HL1.o];omega)];exact hlt)] at q6;(have f6:=AJ (o:=5+k) h56);(have p6:=Ad.mk (AB h56));(have R6:=hY r6);(have G6:=hY g6);(have K6:=hY k6);(have H56:=hY h56);clear r6 g6 k6 h56)
   have hT7:(W6.setCell ⟨W2.heap.size,5+k,none⟩ (.int .i64 y1)).heap[W2.heap.size]? = some (.cells (Du id kind (.slice af fr.length cf) (.slice ap pr.length cp) par (Si (LS.1++[y1]))) 64):=by
    rw[set_self H56.o,MH];have:=Z9 (l:=LS.1) (y:=y1) (by rw[HL1.o];exact hlt);rw[HL1.o] at this;rw[this]
   have HT7:=hY hT7;clear hT7
   go_roundg (8-(k+1))
   case measure=>omega
   case rel=>exact⟨k+1,by omega,by omega,by go_num,hY (by rw[HSC.o];exact R6.out.setOther hTA hTB),hY (G6.out.set hT0 _),hY (Bd.setNew (HK.o.trans K6.out) hTW),hY (by rw[HSC.o];exact HT7.o),hY (OwnAt.setOther (OwnAt.keep2 HF.o K6.out HR.o) H56.o (by decide)),hY (OwnAt.setOther (OwnAt.keep2 HP.o K6.out HR.o) H56.o (by decide))⟩
  ·obtain rfl:k=8:=by omega
   generalize hLS:Gr.listS 0 2 8 s5=LS at *;obtain⟨o,s6⟩:=LS;simp only at hl1 hl2 HT HR;obtain⟨o0,o1,o2,o3,o4,o5,o6,o7,rfl⟩:=eight o hl1;have hT8:wr.heap[W2.heap.size]? = some (.cells #[.int .i64 id,.int .i64 kind,.slice af fr.length cf,.slice ap pr.length cp,.int .i64 par,.int .i64 o0,.int .i64 o1,.int .i64 o2,.int .i64 o3,.int .i64 o4,.int .i64 o5,.int .i64 o6,.int .i64 o7] 64):=HT.o;have hT4:=HK.o.2 W.heap.size (by rw[World.size_alloc];omega) (by omega) (by omega);rw[HT4.o] at hT4;have c0:=cell_of (o:=0) hT8;have c1:=cell_of (o:=1) hT8;have c2:=cell_of (o:=2) hT8;have c3:=cell_of (o:=3) hT8;have c4:=cell_of (o:=4) hT8;have c5:=cell_of (o:=5) hT8;have c6:=cell_of (o:=6) hT8;have c7:=cell_of (o:=7) hT8;have c8:=cell_of (o:=8) hT8;have c9:=cell_of (o:=9) hT8;have c10:=cell_of (o:=10) hT8;have c11:=cell_of (o:=11) hT8;have c12:=cell_of (o:=12) hT8;have d0:=cell_of (o:=0) hT4;have f0:=AJ (o:=0) hT4;have d1:=cell_of (o:=1) hT4;have f1:=AJ (o:=1) hT4;have d2:=cell_of (o:=2) hT4;have f2:=AJ (o:=2) hT4;have d3:=cell_of (o:=3) hT4;have f3:=AJ (o:=3) hT4;have d4:=cell_of (o:=4) hT4;have f4:=AJ (o:=4) hT4;have d5:=cell_of (o:=5) hT4;have f5:=AJ (o:=5) hT4;have d6:=cell_of (o:=6) hT4;have f6:=AJ (o:=6) hT4;have d7:=cell_of (o:=7) hT4;have f7:=AJ (o:=7) hT4;have d8:=cell_of (o:=8) hT4;have f8:=AJ (o:=8) hT4;have d9:=cell_of (o:=9) hT4;have f9:=AJ (o:=9) hT4;have d10:=cell_of (o:=10) hT4;have f10:=AJ (o:=10) hT4;have d11:=cell_of (o:=11) hT4;have f11:=AJ (o:=11) hT4;have d12:=cell_of (o:=12) hT4;have f12:=AJ (o:=12) hT4;have pT4:=Ad.mk (AB hT4);have pT8:=Ad.mk (AB hT8);have hne:W2.heap.size≠W.heap.size:=by omega
   have HT4b:=hY hT4;simp at c0 c1 c2 c3 c4 c5 c6 c7 c8 c9 c10 c11 c12 d0 d1 d2 d3 d4 d5 d6 d7 d8 d9 d10 d11 d12;clear hT8 hT4 hLS;go_wp2;have hA4:W.heap.size≠A:=by omega
   have hB4:W.heap.size≠B:=by omega
   have hF4:=OwnAt.other HF.o HT4b.o (by decide);have hP4:=OwnAt.other HP.o HT4b.o (by decide)
   refine bodyPost_ret (v:=.agg #[.int .i64 id,.int .i64 kind,.slice af fr.length cf,.slice ap pr.length cp,.int .i64 par,.int .i64 o0,.int .i64 o1,.int .i64 o2,.int .i64 o3,.int .i64 o4,.int .i64 o5,.int .i64 o6,.int .i64 o7])
    (A0B rfl rfl ?_) rfl
    (Sj ⟨id,kind,af,fr.length,cf,ap,pr.length,cp,par,o0,o1,o2,o3,o4,o5,o6,o7⟩ rfl rfl rfl rfl ?_ ?_ ?_ ?_ ?_)
   ·exact A4C HT4b.o _ _ _ _ _ _ _ _ _ _ _ _ _
   ·exact OwnAt.same HF.o fun b hb=>by
     have:W.heap.size≠b:=fun e=>hF4 (by rw[e];exact hb)
     iterate 13 rw[AQ this]
   ·exact OwnAt.same HP.o fun b hb=>by
     have:W.heap.size≠b:=fun e=>hP4 (by rw[e];exact hb)
     iterate 13 rw[AQ this]
   ·iterate 13 refine Cg.setOther ?_ hA4 hB4
    exact HR.o
   ·have hWW:w0.heap.size≤W.heap.size:=HG.o.below.size
    iterate 13 refine AA.set ?_ hWW _
    exact HGr.o
   ·iterate 13 refine Bd.setNew ?_ (Nat.le_refl _)
    exact(Bd.ofGrew gw).trans HK.o
theorem Ab.keep2{base base0 A B:Nat}{w w':World}{c:BM}{n:Gr.Nd}{s:Gr.Rs}(o:Ab base w c n)(hk:Bd A B w w')(hr:Cg base0 A B w s): Ab base w' c n:=⟨OwnAt.keep2 o.1 hk hr,OwnAt.keep2 o.2 hk hr⟩
theorem Ah.keep2{base base0 A B:Nat}{w w':World}{lc:List BM}{l:List Gr.Nd}{s:Gr.Rs}(h:Ah base w lc l)(hk:Bd A B w w')(hr:Cg base0 A B w s): Ah base w' lc l :=
 BL.mono (fun c n ⟨h1,h2⟩=>⟨(h2.keep2 hk hr).is h1,h2.keep2 hk hr⟩) h
theorem YH(lp:Int)(s:Gr.Rs): (Gr.nodeS BK lp s).2.1.length≤s.1.length:=by
 unfold Gr.nodeS;simp only;have l1:=Cc 0 7 s;have l2:=Cc 0 2 (Gr.numS 0 7 s).2;generalize (Gr.numS 0 2 (Gr.numS 0 7 s).2).2=s2 at *;have l3:=Cc 0 3 s2;have l4:=(D7 0 7 (Gr.numS 0 3 s2).1.toNat (Gr.numS 0 3 s2).2).2;generalize (Gr.listS 0 7 (Gr.numS 0 3 s2).1.toNat (Gr.numS 0 3 s2).2).2=s3 at *;have l5:=Pd s3;generalize (Gr.progS BK s3).2=s4 at *;have l6:=Cc lp 3 s4;have l7:=(D7 0 2 8 (Gr.numS lp 3 s4).2).2;omega
def Cf(l:List Gr.Nd): Bool:=decide (l.Pairwise fun a b=>a.id≤b.id)
theorem Qs{l:List Gr.Nd}(h:∀j (hj:j<l.length),0<j→l[j-1].id≤l[j].id): Cf l=true:=by
 unfold Cf;rw[decide_eq_true_eq,List.pairwise_iff_getElem]
 have key:∀d i (hj:i+d<l.length),l[i].id≤l[i+d].id:=by
  intro d
  induction d with
  | zero=>intro i hj;exact Int.le_refl _
  |succ d ih =>
   intro i hj;have h1:=ih i (by omega);have h2:=h (i+(d+1)) hj (by omega);simp only[show i+(d+1)-1=i+d by omega] at h2;exact Int.le_trans h1 h2
 intro i j hi hj hij;have:=key (j-i) i (by omega);simp only[show i+(j-i)=j by omega] at this;exact this
theorem Ot{l:List Gr.Nd}{j:Nat}(hj:j<l.length)(h0:0<j)(h:l[j].id<l[j-1].id): Cf l=false:=by
 unfold Cf;rw[decide_eq_false_iff_not,List.pairwise_iff_getElem];intro hp;have:=hp (j-1) j (by omega) hj (by omega);omega
theorem A0T(x y:BM)(W:World)(h1:0≤x.id∧x.id≤1000)(h2:0≤y.id∧y.id≤1000): Calls Tryz.prog 67 #[.agg #[.int .i64 x.id,.int .i64 x.kind,.slice x.af x.nf x.cf,.slice x.ap x.np x.cp,.int .i64 x.par,.int .i64 x.r0,.int .i64 x.r1,.int .i64 x.r2,.int .i64 x.r3,.int .i64 x.r4,.int .i64 x.r5,.int .i64 x.r6,.int .i64 x.r7],.agg #[.int .i64 y.id,.int .i64 y.kind,.slice y.af y.nf y.cf,.slice y.ap y.np y.cp,.int .i64 y.par,.int .i64 y.r0,.int .i64 y.r1,.int .i64 y.r2,.int .i64 y.r3,.int .i64 y.r4,.int .i64 y.r5,.int .i64 y.r6,.int .i64 y.r7]] W (Ac (.int .i64 (x.id-y.id)) W):=by
 obtain⟨xi,xk,xaf,xnf,xcf,xap,xnp,xcp,xpar,x0,x1,x2,x3,x4,x5,x6,x7⟩:=x;obtain⟨yi,yk,yaf,ynf,ycf,yap,ynp,ycp,ypar,y0,y1,y2,y3,y4,y5,y6,y7⟩:=y;simp only at *;obtain⟨h1,h1'⟩:=h1;obtain⟨h2,h2'⟩:=h2;go_enter Tryz.func67,Tryz.ntmps67;go_wp2;go_ret;refine⟨rfl,?_⟩;exact gw
theorem A0U:∀args w,(callFunc 67 args).run Tryz.prog w = .ok (.enter 67 args) w:=enters_of Tryz.func67 (by kernel_rfl) rfl
theorem Qt(v:Value)(l:List Gr.Nd)(w:World)(hv:AV w v l)(hid:∀n∈l,0≤n.id∧n.id≤1000)(hl:l.length≤1000):
  Calls Tryz.prog 66 #[v,.func (.func 67) #[] #[]] w (Ac (.bool (Cf l)) w):=by
 have HV:=hY hv;have HID:=hY hid;have eg:=A0U;obtain⟨a,cap,rfl,hm,-⟩:=hv.openC;clear hv hid;go_enter Tryz.func66,Tryz.ntmps66;go_wp2
 go_loopg [5] l.length (fun gg s5 wr=>∃i:Int,-1≤i∧i<l.length∧i≤gg∧s5 = .int .i64 i∧Hid (AA w wr)∧Hid (∀j (hj:j<l.length),i<j→0<j→l[j-1].id≤l[j].id))
 case atStart=>exact⟨(l.length:Int)-1,by omega,by omega,by omega,rfl,hY gw,hY fun j hj h _=>by omega⟩
 case round =>
  obtain⟨i,hi0,hi1,hgg,rfl,HG,HNO⟩:=hrel;by_cases hpos:0<i
  ·obtain⟨k,rfl⟩:∃k:Nat,i=(k:Int)+1:=⟨(i-1).toNat,by omega⟩;have hk1:k+1<l.length:=by omega
   obtain⟨a',cap',e,-,hx⟩:=(HV.o.grew HG.o).openC;cases e;obtain⟨b,off,c,rfl,hb,hn,c0,c1,c2,c3,c4,c5,c6,c7,c8,c9,c10,c11,c12⟩:=hx (k+1) hk1;obtain⟨b',off',d,eb,hb',hn',d0,d1,d2,d3,d4,d5,d6,d7,d8,d9,d10,d11,d12⟩:=hx k (by omega);cases eb;have hi1:=HID.o _ (List.getElem_mem hk1);have hi2:=HID.o _ (List.getElem_mem (show k<l.length by omega));have e1:=hn.id;have e2:=hn'.id;rw[e1] at hi1;rw[e2] at hi2;have hcm:=fun W=>A0T c d W hi1 hi2
   have E1:=hY e1;have E2:=hY e2;clear hx hn hn' e1 e2;obtain⟨cid,kind,af,nf,cf,ap,np,cp,par,r0,r1,r2,r3,r4,r5,r6,r7⟩:=c;obtain⟨did,dkind,daf,dnf,dcf,dap,dnp,dcp,dpar,t0,t1,t2,t3,t4,t5,t6,t7⟩:=d;simp only at c0 c1 c2 c3 c4 c5 c6 c7 c8 c9 c10 c11 c12 d0 d1 d2 d3 d4 d5 d6 d7 d8 d9 d10 d11 d12 hcm hi1 hi2;have HCM:=hY hcm;obtain⟨i1,i2⟩:=hi1;obtain⟨j1,j2⟩:=hi2;clear hcm
   go_upto_region 4 with fail
   refine AY 12 Tryz.mixed (by kernel_rfl) (by kernel_rfl) ?_
   iterate 12
    apply Ch.val
    focus
     rintro w1 u ⟨R1,n1,rfl⟩ hF;simp[AR,AU.more,Oper.deps,Region.binds,List.filter_cons,World.more_drew] at hF;simp[AL,Oper.deps,Region.binds,List.filter_cons,Region.dstOf,AU.at,Act.put,World.more_drew]
     go_wp2_with (go_at_fn 67;refine(HCM.o _).mono ?_;rintro e w2 ⟨rfl,R3,n3,rfl⟩)
     exact⟨gw,rfl,_,_,rfl,rfl,rfl⟩
   rintro u w1 ⟨R1,n1,rfl⟩ hF;clear hF;simp[AL,Region.dstOf,AU.at,Act.put,List.range_succ,World.more_drew];by_cases hlt:cid-did<0
   ·have hr:=Ot hk1 (by omega) (by simp only[Nat.add_sub_cancel];rw[E1.o,E2.o];simp only;omega);have HR:=hY hr;clear hr;go_wp2;go_ret;exact⟨by rw[HR.o];rfl,HG.o.trans gw⟩
   ·have hge:0≤cid-did:=by omega
    go_wp2
    go_roundg (k:Nat)
    case measure=>omega
    case rel=>exact⟨(k:Int),by omega,by omega,by omega,by go_num,hY (HG.o.trans gw),hY fun j hj h h0=>by
     by_cases h1:(k:Int)+1<j
     ·exact HNO.o j hj h1 h0
     ·obtain rfl:j=k+1:=by omega
      have h4:l[k+1].id=cid:=E1.o;have h5:l[k].id=did:=E2.o;show l[k].id≤l[k+1].id
      omega⟩
  ·go_wp2;have hr:=Qs fun j hj h0=>HNO.o j hj (by omega) h0
   have HR:=hY hr;clear hr;go_ret;exact⟨by rw[HR.o];rfl,HG.o⟩
theorem DW(v:Value)(l:List Gr.Nd)(w:World)(hv:AV w v l)(hid:∀n∈l,0≤n.id∧n.id≤1000)(hl:l.length≤1000): Calls Tryz.prog 30 #[v] w (Ac (.bool (Cf l)) w):=by
 have HI:=hY (Qt v l w hv hid hl);obtain⟨a,cap,rfl,hm,-⟩:=hv.openC;clear hv;go_enter Tryz.func30,Tryz.ntmps30
 go_wp2_with (go_at_call 66;refine HI.o.mono ?_;rintro e w1 ⟨rfl,R3,n3,rfl⟩)
 go_ret;refine⟨rfl,?_⟩;exact gw
theorem ND:∀(n:Nat) (s:List UInt8) (acc:List Val),(CP n s acc).1.length≤acc.length+n
 | 0,s,acc=>Nat.le_refl _
 |n+1,s,acc=>by
  rw[CP];split
  ·simp
  ·split
   ·simp
   ·have:=ND n (LJ (within s 0 17).2.2).2.2 (acc++[((within s 0 17).1,(LJ (within s 0 17).2.2).1)]);rw[List.length_append] at this;simp at this;omega
theorem YI(s:List UInt8): (BK s).1.length≤24:=by
 have h0:(within s 0 24).1.toNat≤24:=by
  have:=Gq (a:=0) (b:=24) (s,0) (by omega) (by omega);unfold Gr.numS at this;rw[if_neg (by simp)] at this;have h2:(within s 0 24).1≤24:=this.2;omega
 have h1:=ND (within s 0 24).1.toNat (within s 0 24).2.2 [];simp only[List.length_nil,Nat.zero_add] at h1;unfold BK;split
 ·simp
 ·split
  ·omega
  ·split
   ·omega
   ·simp
theorem Sk(lp:Int)(s:Gr.Rs): (Gr.nodeS BK lp s).1.frm.length≤3∧(Gr.nodeS BK lp s).1.prog.length≤24∧0≤(Gr.nodeS BK lp s).1.id∧(Gr.nodeS BK lp s).1.id≤7∧(Gr.nodeS BK lp s).1.route.length=8:=by
 unfold Gr.nodeS;simp only;have h1:=Gq (a:=0) (b:=7) s (by omega) (by omega);refine⟨?_,?_,h1.1,h1.2,(D7 0 2 8 _).1⟩
 ·rw[(D7 0 7 _ _).1];have:=Gq (a:=0) (b:=3) (Gr.numS 0 2 (Gr.numS 0 7 s).2).2 (by omega) (by omega);omega
 ·unfold Gr.progS;split
  ·simp
  ·exact YI _
theorem AV.nil(w:World): AV w (.slice none 0 0) []:=⟨[],AX.nil,rfl,fun i c n h=>by simp at h⟩
theorem A3Y(w:World)(s:List UInt8): Cg w.heap.size (w.heap.size+1) w.heap.size ((w.alloc (.cells #[.string ⟨s.toArray⟩] 204)).alloc (.cells #[.pointer (some ⟨w.heap.size,0,none⟩),.int .i64 0] 174)) (s,0) :=
 ⟨by omega,AO _ _ _ (by rw[World.size_alloc]),Nat.le_refl _,heap_alloc_old (AO _ _ _ rfl) _⟩
theorem eq8(r0 r1 r2 r3 r4 r5 r6 r7 s0 s1 s2 s3 s4 s5 s6 s7:Int)(w:World): (binOp .eql 62 (.agg #[.int .i64 r0,.int .i64 r1,.int .i64 r2,.int .i64 r3,.int .i64 r4,.int .i64 r5,.int .i64 r6,.int .i64 r7]) (.agg #[.int .i64 s0,.int .i64 s1,.int .i64 s2,.int .i64 s3,.int .i64 s4,.int .i64 s5,.int .i64 s6,.int .i64 s7])).run Tryz.prog w = .ok (.bool (decide ([r0,r1,r2,r3,r4,r5,r6,r7]=[s0,s1,s2,s3,s4,s5,s6,s7]))) w:=by
 have u3:=Tryz.underlying3;have a3:=Tryz.isAgg3;have z3:=Tryz.sizeOf3;obtain⟨i,hi⟩:∃i,Tryz.prog.info? 3=some i:=info_of_underlying u3;rw[run_eql_struct,show(10000:Nat)=9999+1 from rfl,run_equalIn_array w 9999 _ _ Tryz.underlying62 hi];rw[show Tryz.prog.cellsOf 3=1 by kernel_rfl];rw[show List.range 8=[0,1,2,3,4,5,6,7] from rfl];simp only[Op.eqItems];go_simp;by_cases h0:r0=s0
 ·by_cases h1:r1=s1
  ·by_cases h2:r2=s2
   ·by_cases h3:r3=s3
    ·by_cases h4:r4=s4
     ·by_cases h5:r5=s5
      ·by_cases h6:r6=s6
       ·by_cases h7:r7=s7
        ·simp[h0,h1,h2,h3,h4,h5,h6,h7]
        ·simp[h0,h1,h2,h3,h4,h5,h6,h7]
       ·simp[h0,h1,h2,h3,h4,h5,h6]
      ·simp[h0,h1,h2,h3,h4,h5]
     ·simp[h0,h1,h2,h3,h4]
    ·simp[h0,h1,h2,h3]
   ·simp[h0,h1,h2]
  ·simp[h0,h1]
 ·simp[h0]
theorem Bz(n:Int)(h:Oc.fitsN n=true)(w:World): Calls Tryz.prog 49 #[.int .i64 n] w (Ac (str (Oc.be n)) w):=by
 have HP:=hY fun W=>Et n h W
 clear h;go_enter Tryz.func49,Tryz.ntmps49
 go_wp2_with (go_at_call 90;refine(HP.o _).mono ?_;rintro e w1 ⟨rfl,R3,n3,rfl⟩)
 go_ret;refine⟨rfl,?_⟩;exact gw
theorem A3Z{a0 a1 a2 a3 a4:Value}{r0 r1 r2 r3 r4 r5 r6 r7:Int}(g:Nat)(h:g<8): (#[a0,a1,a2,a3,a4,.int .i64 r0,.int .i64 r1,.int .i64 r2,.int .i64 r3,.int .i64 r4,.int .i64 r5,.int .i64 r6,.int .i64 r7]:Array Value)[5+g]? = some (.int .i64 ([r0,r1,r2,r3,r4,r5,r6,r7]:List Int)[g]):=by
 rcases (show g=0∨g=1∨g=2∨g=3∨g=4∨g=5∨g=6∨g=7 by omega) with rfl|rfl|rfl|rfl|rfl|rfl|rfl|rfl<;>rfl
theorem NI(c:BM)(n:Gr.Nd)(lp:Int)(hlp : -2147483648≤lp)(w:World)(hn:A9 w c n)(hok:Gr.OkB BF lp n): Calls Tryz.prog 88 #[.agg #[.int .i64 c.id,.int .i64 c.kind,.slice c.af c.nf c.cf,.slice c.ap c.np c.cp,.int .i64 c.par,.int .i64 c.r0,.int .i64 c.r1,.int .i64 c.r2,.int .i64 c.r3,.int .i64 c.r4,.int .i64 c.r5,.int .i64 c.r6,.int .i64 c.r7]] w (Ac (str (Gr.putNd BZ n)) w):=by
 have HF:=hY hn.f;have HP:=hY hn.p;have HFI:Hid (Co.fitsI n.prog=true):=hY hok.p;have HFF:=hY hok.f;have HOO:=hY hok.o;have hfl:=hok.m;have hq:=Sw [] n;obtain⟨id,kind,af,cf,ap,cp,par,r0,r1,r2,r3,r4,r5,r6,r7,rfl⟩:=hn.lit;have e1:=hn.id;have e2:=hn.kind;have e3:=hn.par;have e4:=hn.route;simp only at e1 e2 e3 e4 HF HP;rw[List.nil_append,List.nil_append,NH,VF,e1,e2,e3,e4] at hq;have f1:Oc.fitsN id=true:=by rw[←e1];exact BG (by have:=hok.i;omega) (by have:=hok.i;omega)
 have f2:Oc.fitsN kind=true:=by rw[←e2];exact BG (by have:=hok.k;omega) (by have:=hok.k;omega)
 have f3:Oc.fitsN (n.frm.length:Int)=true:=BG (by omega) (by omega);have f4:Oc.fitsN par=true:=by rw[←e3];exact BG (by have:=hok.r;omega) (by have:=hok.r;omega)
 have E4:=hY e4;have HQ:=hY hq;have hpl:=IY n.prog hok.p;clear hq e1 e2 e3 e4 hn hok;generalize hpg:n.prog.length=pl at *;obtain⟨fr,hfr⟩:∃fr,fr=n.frm:=⟨_,rfl⟩;have HFR:=hY hfr;rw[←hfr] at HF HFF hfl HQ f3;rw[←hfr];clear hfr hpg;show Calls Tryz.prog 88 #[.agg #[.int .i64 id,.int .i64 kind,.slice af fr.length cf,.slice ap pl cp,.int .i64 par,.int .i64 r0,.int .i64 r1,.int .i64 r2,.int .i64 r3,.int .i64 r4,.int .i64 r5,.int .i64 r6,.int .i64 r7]] w _;have b1:(Oc.be id).length≤4:=Nat.le_of_eq (Oc.be_len _);have b2:(Oc.be kind).length≤4:=Nat.le_of_eq (Oc.be_len _);have b3:(Oc.be (fr.length:Int)).length≤4:=Nat.le_of_eq (Oc.be_len _);have b4:(Oc.be par).length≤4:=Nat.le_of_eq (Oc.be_len _);go_enter Tryz.func88,Tryz.ntmps88
 go_wp2_with fail
 refine AY 13 Tryz.mixed (by kernel_rfl) (by kernel_rfl) ?_
 iterate 13
  apply Ch.val
  focus
   rintro w1 u ⟨R1,n1,rfl⟩ hF;simp[AR,AU.more,Oper.deps,Region.binds,List.filter_cons,World.more_drew] at hF;simp[AL,Oper.deps,Region.binds,List.filter_cons,Region.dstOf,AU.at,Act.put,World.more_drew]
   go_wp2_with (first
    | (go_at_call 49;refine(Bz _ (by assumption) _).mono ?_;rintro e w1 ⟨rfl,R3,n3,rfl⟩)
    )
   exact⟨gw,rfl,_,_,rfl,rfl,rfl⟩
 rintro u w1 ⟨R1,n1,rfl⟩ hF;clear hF;simp[AL,Region.dstOf,AU.at,Act.put,List.range_succ,World.more_drew];go_wp2;have hT0:(Oc.be id++(Oc.be kind++Oc.be (fr.length:Int))).length≤12:=by simp only[List.length_append,Oc.be_len];omega
 have hbe:(⟨(Oc.be id).toArray⟩++⟨(Oc.be kind).toArray⟩++⟨(Oc.be (fr.length:Int)).toArray⟩:ByteArray)=⟨(Oc.be id++(Oc.be kind++Oc.be (fr.length:Int))).toArray⟩:=by rw[Bo,Bo,List.append_assoc]
 rw[hbe];have hlen0:(Oc.be (fr.length:Int))=(Oc.be (fr.length:Int)):=rfl;generalize Oc.be id++(Oc.be kind++Oc.be (fr.length:Int))=T0 at *;clear hbe hlen0
 go_loopg [3,4] fr.length (fun gg s3 s4 wr=>∃g:Nat,g≤fr.length∧fr.length-g≤gg∧s4 = .int .i64 g∧s3=str (T0++Oc.bes (fr.take g))∧Hid (AA w wr)∧Hid (wr.heap[w.heap.size]? = some (.cells #[.int .i64 id,.int .i64 kind,.slice af fr.length cf,.slice ap pl cp,.int .i64 par,.int .i64 r0,.int .i64 r1,.int .i64 r2,.int .i64 r3,.int .i64 r4,.int .i64 r5,.int .i64 r6,.int .i64 r7] 64)))
 case atStart=>exact⟨0,by omega,by omega,rfl,by simp[Oc.bes],hY gw,hY (AC gw (AO w _ _ rfl))⟩
 case round =>
  obtain⟨g,hg8,hgg,rfl,rfl,HGR,HBX⟩:=hrel;have d2:=cell_of (o:=2) HBX.o;have d3:=cell_of (o:=3) HBX.o;have d4:=cell_of (o:=4) HBX.o;have px:=Ad.mk (AB HBX.o);simp at d2 d3 d4;have hbl:=Oc.bes_len (fr.take g);rw[List.length_take_of_le hg8] at hbl;have hTl:(T0++Oc.bes (fr.take g)).length≤100:=by rw[List.length_append,hbl];omega
  by_cases hlt:g<fr.length
  ·obtain⟨af',cf',e,-,hx⟩:=BJ (HF.o.grew HGR.o);cases e;obtain⟨bf,offf,rfl,hpf,cx⟩:=hx g hlt;have hbs:=Oc.bes_succ fr g hlt;have hfx:=HFF.o _ (List.getElem_mem hlt);clear hx;generalize fr[g]=x at *;have fx:Oc.fitsN x=true:=BG (by omega) (by omega);have bx:(Oc.be x).length≤4:=Nat.le_of_eq (Oc.be_len _);have hns:T0++Oc.bes (fr.take (g+1))=(T0++Oc.bes (fr.take g))++Oc.be x:=by rw[hbs,List.append_assoc]
   have HNS:=hY hns;clear hns hbs hbl hfx d3 d4;generalize T0++Oc.bes (fr.take g)=T at *
   go_wp2_with (go_at_call 49;refine(Bz _ fx _).mono ?_;rintro e w2 ⟨rfl,R5,n5,rfl⟩)
   go_roundg (fr.length-(g+1))
   case measure=>omega
   case rel=>exact⟨g+1,by omega,by omega,by go_num,by rw[HNS.o];exact congrArg Value.string (Bo _ _),hY (HGR.o.trans gw),hY (AC gw HBX.o)⟩
  ·obtain rfl:g=fr.length:=by omega
   rw[List.take_length] at *;generalize hT1:T0++Oc.bes fr=T1 at *;have HT1:=hY hT1;have HPg:=hY (HP.o.grew HGR.o);have hpp:(BZ n.prog).length≤200:=hpl;clear hT1 hbl
   go_wp2_with fail
   refine AY 9 Tryz.mixed (by kernel_rfl) (by kernel_rfl) ?_
   iterate 9
    apply Ch.val
    focus
     rintro w1 u ⟨R1,n1,rfl⟩ hF;simp[AR,AU.more,Oper.deps,Region.binds,List.filter_cons,World.more_drew] at hF;simp[AL,Oper.deps,Region.binds,List.filter_cons,Region.dstOf,AU.at,Act.put,World.more_drew]
     go_wp2_with (first
      | (go_at_call 120;refine(Qi _ n.prog _ (HPg.o.grew gw) HFI.o).mono ?_;rintro e w2 ⟨rfl,R5,n5,rfl⟩)
      | (go_at_call 49;refine(Bz _ f4 _).mono ?_;rintro e w2 ⟨rfl,R5,n5,rfl⟩))
     exact⟨gw,rfl,_,_,rfl,rfl,rfl⟩
   rintro u w1 ⟨R1,n1,rfl⟩ hF;clear hF;simp[AL,Region.dstOf,AU.at,Act.put,List.range_succ,World.more_drew];go_wp2;have hbe2:(⟨T1.toArray⟩++⟨(BZ n.prog).toArray⟩++⟨(Oc.be par).toArray⟩:ByteArray)=⟨((T1++BZ n.prog)++Oc.be par).toArray⟩:=by rw[Bo,Bo]
   rw[hbe2];have hT2l:((T1++BZ n.prog)++Oc.be par).length≤400:=by simp only[List.length_append,Oc.be_len];omega
   generalize hT2:(T1++BZ n.prog)++Oc.be par=T2 at *;have HT2:=hY hT2;clear hbe2 hT2 d3 d4
   go_loopg [3,5] 8 (fun gg s3 s5 ws=>∃g:Nat,g≤8∧8-g≤gg∧s5 = .int .i64 g∧s3=str (T2++Oc.bes (([r0,r1,r2,r3,r4,r5,r6,r7]:List Int).take g))∧Hid (AA w ws)∧Hid (ws.heap[w.heap.size]? = some (.cells #[.int .i64 id,.int .i64 kind,.slice af fr.length cf,.slice ap pl cp,.int .i64 par,.int .i64 r0,.int .i64 r1,.int .i64 r2,.int .i64 r3,.int .i64 r4,.int .i64 r5,.int .i64 r6,.int .i64 r7] 64)))
   case atStart=>exact⟨0,by omega,by omega,rfl,by simp[Oc.bes],hY (HGR.o.trans gw),hY (AC gw HBX.o)⟩
   case round =>
    obtain⟨h,hh8,hhg,rfl,rfl,HGS,HBS⟩:=hrel;have px2:=Ad.mk (AB HBS.o);have hbl2:=Oc.bes_len (([r0,r1,r2,r3,r4,r5,r6,r7]:List Int).take h);rw[List.length_take_of_le (show h≤([r0,r1,r2,r3,r4,r5,r6,r7]:List Int).length from hh8)] at hbl2;have hTl2:(T2++Oc.bes (([r0,r1,r2,r3,r4,r5,r6,r7]:List Int).take h)).length≤500:=by rw[List.length_append,hbl2];omega
    by_cases hlt2:h<8
    ·have dg:=cell_of (o:=5+h) HBS.o;rw[A3Z h hlt2] at dg;have hbs:=Oc.bes_succ ([r0,r1,r2,r3,r4,r5,r6,r7]:List Int) h hlt2;have hfx:=HOO.o _ (by rw[E4.o];exact List.getElem_mem (show h<([r0,r1,r2,r3,r4,r5,r6,r7]:List Int).length from hlt2));have hns:T2++Oc.bes (([r0,r1,r2,r3,r4,r5,r6,r7]:List Int).take (h+1))=(T2++Oc.bes (([r0,r1,r2,r3,r4,r5,r6,r7]:List Int).take h))++Oc.be ([r0,r1,r2,r3,r4,r5,r6,r7]:List Int)[h]:=by rw[hbs,List.append_assoc]
     have HNS:=hY hns;clear hns hbs hbl2;generalize ([r0,r1,r2,r3,r4,r5,r6,r7]:List Int)[h]=x at *;have fx:Oc.fitsN x=true:=BG (by omega) (by omega);have bx:(Oc.be x).length≤4:=Nat.le_of_eq (Oc.be_len _);generalize T2++Oc.bes (([r0,r1,r2,r3,r4,r5,r6,r7]:List Int).take h)=T at *;clear hfx
     go_wp2_with (go_at_call 49;refine(Bz _ fx _).mono ?_;rintro e w2 ⟨rfl,R7,n7,rfl⟩)
     go_roundg (8-(h+1))
     case measure=>omega
     case rel=>exact⟨h+1,by omega,by omega,by go_num,by rw[HNS.o];exact congrArg Value.string (Bo _ _),hY (HGS.o.trans gw),hY (AC gw HBS.o)⟩
    ·obtain rfl:h=8:=by omega
     clear hbl2;go_wp2;go_ret;exact⟨by rw[←HQ.o];rfl,HGS.o⟩
def Em(l:List Gr.Nd)(k:Nat): List UInt8:=((List.range k).filterMap fun(i:Nat)=>Gr.nodeOf l (i:Int)).flatMap (Gr.putNd BZ)
theorem ML(l:List Gr.Nd)(k:Nat): Em l (k+1)=Em l k++((Gr.nodeOf l (k:Int)).elim [] (Gr.putNd BZ)):=by
 unfold Em;rw[List.range_succ,List.filterMap_append,List.flatMap_append]
 congr 1
 cases h:Gr.nodeOf l (k:Int) with
 | none=>simp[h]
 | some n=>simp[h]
theorem NJ{lp:Int}(l:List Gr.Nd)(h:∀n∈l,Gr.OkB BF lp n): ∀k,(Em l k).length≤k*300
 | 0=>by unfold Em;simp
 |k+1=>by
  have ih:=NJ l h k;rw[ML,List.length_append]
  cases hn:Gr.nodeOf l (k:Int) with
  | none=>simp;omega
  |some n =>
   have:=putNd_len (h n (Gr.nodeOf_some hn).1);simp only[Option.elim];omega
theorem Sz(v:Value)(l:List Gr.Nd)(w:World)(hv:AV w v l)(hok:∀n∈l,Gr.OkB BF 1 n)(hl:l.length≤100): Calls Tryz.prog 50 #[v] w (Ac (str (Gr.putG BZ l)) w):=by
 have HV:=hY hv;have HOK:=hY hok;have f0:Oc.fitsN (l.length:Int)=true:=BG (by omega) (by omega);have b0:(Oc.be (l.length:Int)).length≤4:=Nat.le_of_eq (Oc.be_len _);have hq:Oc.be (l.length:Int)++Em l 8=Gr.putG BZ l:=rfl;have HQ:=hY hq;have hul:=NJ l hok;have HUL:=hY hul;obtain⟨a,cap,rfl,hm,-⟩:=hv.openC;clear hv hok hq hul;generalize hT0:Oc.be (l.length:Int)=T0 at *;have HT0:=hY hT0;go_enter Tryz.func50,Tryz.ntmps50;clear hT0
 go_wp2_with (go_at_call 49;refine(Bz _ f0 _).mono ?_;rintro e w2 ⟨rfl,R5,n5,rfl⟩;rw[HT0.o])
 go_loopg [3,4] 8 (fun gg s3 s4 wr=>∃g:Nat,g≤8∧8-g≤gg∧s4 = .int .i64 g∧s3=str (T0++Em l g)∧Hid (AA w wr))
 case atStart=>exact⟨0,by omega,by omega,rfl,by simp[Em],hY gw⟩
 case round =>
  obtain⟨g,hg8,hgg,rfl,rfl,HGR⟩:=hrel;have hul:=HUL.o g;have hTl:(T0++Em l g).length≤3000:=by rw[List.length_append];omega
  by_cases hlt:g<8
  ·have hsc:=ML l g;have HF:=hY fun W (gr:AA wr W)=>BB _ l (g:Int) W ((HV.o.grew HGR.o).grew gr)
   have hns:T0++Em l (g+1)=(T0++Em l g)++((Gr.nodeOf l (g:Int)).elim [] (Gr.putNd BZ)):=by rw[hsc,List.append_assoc]
   clear hsc hul;generalize T0++Em l g=T at *
   cases hf:Gr.find l (g:Int) with
   |none =>
    have hi:=DC hf;have hno:Gr.nodeOf l (g:Int)=none:=by unfold Gr.nodeOf;rw[hf];rfl
    rw[hno] at hns;simp only[Option.elim,List.append_nil] at hns;have HNS:=hY hns;have HI:=hY hi;clear hf hi hno hns
    go_wp2_with (go_at_call 16;refine(HF.o _ gw).mono ?_;rintro e w1 ⟨rfl,hw1⟩;obtain rfl:=hw1.symm;rw[HI.o])
    go_roundg (8-(g+1))
    case measure=>omega
    case rel=>exact⟨g+1,by omega,by omega,by go_num,by rw[HNS.o],hY (HGR.o.trans gw)⟩
   |some i =>
    obtain⟨hi,hil⟩:=Ct hf;have hno:Gr.nodeOf l (g:Int)=some l[i]:=by unfold Gr.nodeOf;rw[hf,Option.bind_some,List.getElem?_eq_getElem hil]
    rw[hno] at hns;simp only[Option.elim] at hns;have HI:=hY hi;obtain⟨a',cap',e,-,hx⟩:=(HV.o.grew HGR.o).openC;cases e;obtain⟨b,off,c,rfl,hb,hn,c0,c1,c2,c3,c4,c5,c6,c7,c8,c9,c10,c11,c12⟩:=hx i hil;have hok:=HOK.o _ (List.getElem_mem hil);clear hx hf hi hno;generalize l[i]=y at *;have hpl:=putNd_len hok;have HN:=hY fun W (gr:AA wr W)=>NI c y 1 (by decide) W (hn.grew gr) hok
    have hi0:(0:Int)≤(i:Int):=by omega
    obtain⟨cid,kind,af,cf,ap,cp,par,r0,r1,r2,r3,r4,r5,r6,r7,rfl⟩:=hn.lit;simp only at c0 c1 c2 c3 c4 c5 c6 c7 c8 c9 c10 c11 c12;generalize Gr.putNd BZ y=Y at *;have HNS:=hY hns;clear hns hn hok
    go_wp2_with (first
     | (go_at_call 16;refine(HF.o _ gw).mono ?_;rintro e w1 ⟨rfl,hw1⟩;obtain rfl:=hw1.symm;rw[HI.o])
     | (go_at_call 88;refine(HN.o _ gw).mono ?_;rintro e w2 ⟨rfl,R6,n6,rfl⟩))
    go_roundg (8-(g+1))
    case measure=>omega
    case rel=>exact⟨g+1,by omega,by omega,by go_num,by rw[HNS.o];exact congrArg Value.string (Bo _ _),hY (HGR.o.trans gw)⟩
  ·obtain rfl:g=8:=by omega
   clear hul;go_wp2;go_ret;exact⟨by rw[←HQ.o];rfl,HGR.o⟩
end Go.Proofs.YtgebkpgilgppgaaGreat
