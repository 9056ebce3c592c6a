import Derived.Test.YtipgfjihdglocaaGreatCw14
import Derived.Test.YtipgfjihdglocaaGreatCw16
import Derived.Test.YtipgfjihdglocaaGreatCw5
set_option linter.unusedSimpArgs false
set_option linter.unusedVariables false
set_option maxRecDepth 100000
set_option maxHeartbeats 64000000
namespace Go.Proofs.YtipgfjihdglocaaGreat
open Go.RowKit Ga
def fitsP(p:List Vm.Ins): Prop:=Co.fitsI p=true
theorem be_one(x:Int): Oc.bes [x]=Oc.be x:=by simp[Oc.bes]
theorem be_three(x y z:Int): Oc.bes [x,y,z]=Oc.be x++(Oc.be y++Oc.be z):=by simp[Oc.bes]
theorem KeptW.cells{base B q:Nat}{W W':World}{c:Array Value}{t:TypeId}(k:KeptW base B W W')(h:W.heap[q]? = some (.cells c t))(hn:q≠B)(ht:t≠5): W'.heap[q]? = some (.cells c t):=by
 rw[k.2 q (heap_lt h) hn (.inr ⟨_,_,_,h,ht⟩)];exact h
def Apart(base B:Nat)(W:World)(v:Value): Prop:=∀b off,(∃n c,v = .slice (some ⟨b,off,none⟩) n c)→Safe base b W∧b≠B
theorem Apart.kept{α:Type}{k:Nat}{enc:α→List Value}{base B:Nat}{W W':World}{v:Value}{l:List α}(h:Apart base B W v)(hk:KeptW base B W W')(hr:RowsAt k enc W v l)(hlt:∀b off,(∃n c,v = .slice (some ⟨b,off,none⟩) n c)→l≠[]→b<W.heap.size): RowsAt k enc W' v l:=by
 cases l with
 |nil =>
  obtain⟨a,cap,rfl,hm,-⟩:=hr
  exact⟨a,cap,rfl,hm,fun h=>absurd rfl h⟩
 | cons x l=>exact RowsAt.sameBlock hr fun b off hv=>hk.2 b (hlt b off hv (by simp)) (h b off hv).2 (h b off hv).1
theorem Apart.to{base B:Nat}{W W':World}{v:Value}(h:Apart base B W v)(hk:KeptW base B W W'): Apart base B W' v:=fun b off hv=>by
 obtain⟨h1,h2⟩:=h b off hv;refine⟨?_,h2⟩;rcases h1 with h1|⟨c,t,f,hc,ht⟩
 ·exact .inl h1
 ·exact .inr ⟨c,t,f,by rw[hk.2 b (heap_lt hc) h2 (.inr ⟨c,t,f,hc,ht⟩)];exact hc,ht⟩
theorem ints_lt{W:World}{v:Value}{l:List Int}(h:IntsAt W v l): ∀b off,(∃n c,v = .slice (some ⟨b,off,none⟩) n c)→l≠[]→b<W.heap.size:=by
 rintro b off ⟨n,c,rfl⟩ hne;exact rows_lt (k:=0) h (List.length_pos_iff.2 hne)
theorem vals_lt{W:World}{v:Value}{l:List Val}(h:ValsAt W v l): ∀b off,(∃n c,v = .slice (some ⟨b,off,none⟩) n c)→l≠[]→b<W.heap.size:=by
 rintro b off ⟨n,c,rfl⟩ hne;exact rows_lt (k:=1) h (List.length_pos_iff.2 hne)
theorem bes_len3(x y z:Int): (Oc.bes [x,y,z]).length=12:=by rw[Oc.bes_len];rfl
theorem putI_len(p:List Val)(h:Co.fitsI p=true): (putI p).length≤200:=by
 obtain⟨h24,_⟩:=Co.fits_parts h;unfold putI;rw[List.length_append,Oc.be_len,Oc.bes_len,nums_len];omega
theorem fits_of{x:Int}(h0 : -2147483648≤x)(h1:x≤2147483647): Oc.fitsN x=true:=by unfold Oc.fitsN;simp;omega
def PutPost(w0 W:World)(B:Nat)(zs:List UInt8)(e:Ending)(W':World): Prop:=e = .returned (.tuple #[])∧Grew w0 W'∧KeptW w0.heap.size B W W'∧∃vb',WriterAt w0.heap.size B W' vb' zs
theorem route_box{W:World}{q:Nat}{t:TypeId}{id kind par r0 r1 r2 r3 r4 r5 r6 r7:Int}{vf vp:Value}(h:W.heap[q]? = some (.cells #[.int .i64 id,.int .i64 kind,vf,vp,.int .i64 par,.int .i64 r0,.int .i64 r1,.int .i64 r2,.int .i64 r3,.int .i64 r4,.int .i64 r5,.int .i64 r6,.int .i64 r7] t)): IntsAt W (.slice (some ⟨q,5,none⟩) 8 8) [r0,r1,r2,r3,r4,r5,r6,r7]:=by
 refine⟨_,8,rfl,(by unfold maxLen;simp),fun _=>⟨_,_,rfl,fun i x hi j u hu=>?_⟩⟩;rw[cell_of h]
 match j,hu with
 |0,hu =>
  simp at hu;subst hu
  match i,hi with
  | 0,hi=>simp at hi;subst hi;rfl
  | 1,hi=>simp at hi;subst hi;rfl
  | 2,hi=>simp at hi;subst hi;rfl
  | 3,hi=>simp at hi;subst hi;rfl
  | 4,hi=>simp at hi;subst hi;rfl
  | 5,hi=>simp at hi;subst hi;rfl
  | 6,hi=>simp at hi;subst hi;rfl
  | 7,hi=>simp at hi;subst hi;rfl
  | i+8,hi=>simp at hi
 | j+1,hu=>simp at hu
theorem putNd_eq(ys:List UInt8)(n:Gr.Nd): ((((ys++Oc.bes [n.id,n.kind,n.frm.length])++Oc.bes n.frm)++putI n.prog)++Oc.bes [n.par])++Oc.bes n.route=ys++Gr.putNd putI n:=by
 rw[be_three,be_one];unfold Gr.putNd;simp only[List.append_assoc]
theorem putNode_any(w0 W:World)(B:Nat)(vb:Value)(ys:List UInt8)(c:NdC)(n:Gr.Nd)(lp:Int)(hlp : -2147483648≤lp)(hw:WriterAt w0.heap.size B W vb ys)(hg:Grew w0 W)(hn:NodeIs W c n)(hsf:Apart w0.heap.size B W c.vf)(hsp:Apart w0.heap.size B W c.vp)(hok:Gr.OkB fitsP lp n)(hlen:ys.length≤8000):
  Calls Tryz.prog 106 #[.pointer (some ⟨B,0,none⟩),.agg #[.int .i64 c.id,.int .i64 c.kind,.slice c.af c.nf c.cf,.slice c.ap c.np c.cp,.int .i64 c.par,.int .i64 c.r0,.int .i64 c.r1,.int .i64 c.r2,.int .i64 c.r3,.int .i64 c.r4,.int .i64 c.r5,.int .i64 c.r6,.int .i64 c.r7]] W (PutPost w0 W B (ys++Gr.putNd putI n)):=by
 obtain⟨id,kind,af,cf,ap,cp,par,r0,r1,r2,r3,r4,r5,r6,r7,rfl⟩:=hn.lit;have hr8:=hn.route;simp only at hr8;have HW:=hY hw;have HG:=hY hg;have HN:=hY hn;have HSF:=hY hsf;have HSP:=hY hsp;have HOK:=hY hok;have HR8:=hY hr8;have hBlt:=(Array.getElem?_eq_some_iff.1 hw.2.1).1;have hneB:W.heap.size≠B:=by omega
 clear hw hg hn hsf hsp hok hr8;have hbx0:(W.alloc (.cells #[.int .i64 id,.int .i64 kind,.slice af n.frm.length cf,.slice ap n.prog.length cp,.int .i64 par,.int .i64 r0,.int .i64 r1,.int .i64 r2,.int .i64 r3,.int .i64 r4,.int .i64 r5,.int .i64 r6,.int .i64 r7] 52)).heap[W.heap.size]? = some (.cells #[.int .i64 id,.int .i64 kind,.slice af n.frm.length cf,.slice ap n.prog.length cp,.int .i64 par,.int .i64 r0,.int .i64 r1,.int .i64 r2,.int .i64 r3,.int .i64 r4,.int .i64 r5,.int .i64 r6,.int .i64 r7] 52):=heap_new_at W _ _ rfl;have HBX0:=hY hbx0;clear hbx0;show Calls Tryz.prog 106 #[.pointer (some ⟨B,0,none⟩),.agg #[.int .i64 id,.int .i64 kind,.slice af n.frm.length cf,.slice ap n.prog.length cp,.int .i64 par,.int .i64 r0,.int .i64 r1,.int .i64 r2,.int .i64 r3,.int .i64 r4,.int .i64 r5,.int .i64 r6,.int .i64 r7]] W _;go_enter Tryz.func106,Tryz.ntmps106
 go_wp2_with fail
 refine(writerNum_freshK w0 (W.alloc (.cells #[.int .i64 id,.int .i64 kind,.slice af n.frm.length cf,.slice ap n.prog.length cp,.int .i64 par,.int .i64 r0,.int .i64 r1,.int .i64 r2,.int .i64 r3,.int .i64 r4,.int .i64 r5,.int .i64 r6,.int .i64 r7] 52)) B vb ys [id,kind,n.frm.length] [.int .i64 id,.int .i64 kind,.int .i64 n.frm.length] _ _ _ (HW.o.grew gw) (HG.o.alloc _) rfl (by simp[go_sem]) rfl ?_ (by simp;omega)).mono ?_
 ·have h1:=HOK.o.i;have h2:=HOK.o.k;have h3:=HOK.o.m;have h4:=HN.o.id;have h5:=HN.o.kind;simp only at h4 h5;simp only[List.all_cons,List.all_nil,Bool.and_true,Bool.and_eq_true];exact⟨fits_of (by omega) (by omega),fits_of (by omega) (by omega),fits_of (by omega) (by omega)⟩
 rintro e W1 ⟨rfl,hg1,hk1,vb1,hw1⟩;have HW1:=hY hw1;have HG1:=hY hg1;have HK1:=hY ((KeptW.ofGrew ((Grew.refl W).alloc _)).trans hk1);have hbx1:=hk1.cells HBX0.o hneB (by decide);have HBX1:=hY hbx1;clear hw1 hg1 hk1;have x2:=cell_of (o:=2) HBX1.o;simp at x2;have px2:=Pre.mk (heap_lt HBX1.o);have hl1:=bes_len3 id kind n.frm.length;have hfl:=HOK.o.m;have HL1:=hY hl1;clear hl1
 go_wp2_with fail
 refine(writerNum_keep w0 W1 B vb1 _ _ n.frm HW1.o HG1.o (HSF.o.kept HK1.o HN.o.f (ints_lt HN.o.f)) (HSF.o.to HK1.o) (List.all_eq_true.2 fun x hx=>?_) (by rw[List.length_append,HL1.o];omega)).mono ?_
 ·have:=HOK.o.f x hx;exact fits_of (by omega) (by omega)
 rintro e W2 ⟨rfl,hg2,hk2,vb2,hw2⟩;have HW2:=hY hw2;have HG2:=hY hg2;have HK2:=hY (HK1.o.trans hk2);have hbx2:=hk2.cells HBX1.o hneB (by decide);have HBX2:=hY hbx2;clear hw2 hg2 hk2 hbx2 x2 px2;have x3:=cell_of (o:=3) HBX2.o;simp at x3;have px3:=Pre.mk (heap_lt HBX2.o)
 go_wp2_with fail
 refine(codePut_keep w0 W2 B vb2 _ _ n.prog HW2.o HG2.o (HSP.o.kept HK2.o HN.o.p (vals_lt HN.o.p)) (HSP.o.to HK2.o) HOK.o.p (by rw[List.length_append,List.length_append,HL1.o,Oc.bes_len];omega)).mono ?_;rintro e W3 ⟨rfl,hg3,hk3,vb3,hw3⟩;have HW3:=hY hw3;have HG3:=hY hg3;have HK3:=hY (HK2.o.trans hk3);have hbx3:=hk3.cells HBX2.o hneB (by decide);have HBX3:=hY hbx3;have hpl:=putI_len n.prog HOK.o.p;clear hw3 hg3 hk3 hbx3 x3 px3;have x4:=cell_of (o:=4) HBX3.o;simp at x4;have px4:=Pre.mk (heap_lt HBX3.o)
 go_wp2_with fail
 refine(writerNum_freshK w0 W3 B vb3 _ [par] [.int .i64 par] _ _ _ HW3.o HG3.o rfl (by simp[go_sem]) rfl ?_ (by simp only[List.length_append,HL1.o,Oc.bes_len,List.length_cons,List.length_nil];omega)).mono ?_
 ·have h1:=HOK.o.r;have h4:=HN.o.par;simp only at h4;simp only[List.all_cons,List.all_nil,Bool.and_true];exact fits_of (by omega) (by omega)
 rintro e W4 ⟨rfl,hg4,hk4,vb4,hw4⟩;have HW4:=hY hw4;have HG4:=hY hg4;have HK4:=hY (HK3.o.trans hk4);have hbx4:=hk4.cells HBX3.o hneB (by decide);have HBX4:=hY hbx4;clear hw4 hg4 hk4 hbx4 x4 px4;have px5:=Pre.mk (heap_lt HBX4.o)
 go_wp2_with fail
 refine(writerNum_keep w0 W4 B vb4 _ _ [r0,r1,r2,r3,r4,r5,r6,r7] HW4.o HG4.o (route_box HBX4.o) ?_ (List.all_eq_true.2 fun x hx=>?_) (by simp only[List.length_append,HL1.o,Oc.bes_len,List.length_cons,List.length_nil];omega)).mono ?_
 ·rintro b off ⟨m,k,e⟩;cases e;exact⟨.inr ⟨_,_,_,HBX4.o,by decide⟩,hneB⟩
 ·rw[←HR8.o] at hx;have:=HOK.o.o x hx;exact fits_of (by omega) (by omega)
 rintro e W5 ⟨rfl,hg5,hk5,vb5,hw5⟩;have HW5:=hY hw5;have HG5:=hY hg5;have HK5:=hY (HK4.o.trans hk5);clear hw5 hg5 hk5;go_wp2
 go_end0
 refine⟨rfl,HG5.o,HK5.o,vb5,?_⟩;have h1:=HN.o.id;have h2:=HN.o.kind;have h3:=HN.o.par;simp only at h1 h2 h3;rw[←putNd_eq,h1,h2,h3,HR8.o];exact HW5.o
theorem OwnsNd.kept{base base0 B:Nat}{W W':World}{c:NdC}{n:Gr.Nd}(o:OwnsNd base W c n)(hk:KeptW base0 B W W')(hB:B<base): OwnsNd base W' c n:=by
 refine⟨OwnAt.same o.1 fun b h=>?_,OwnAt.same o.2 fun b h=>?_⟩
 ·obtain⟨h1,cs,h2⟩:=OwnAt.block o.1 h;exact hk.2 b (heap_lt h2) (by omega) (.inr ⟨_,_,_,h2,by decide⟩)
 ·obtain⟨h1,cs,h2⟩:=OwnAt.block o.2 h;exact hk.2 b (heap_lt h2) (by omega) (.inr ⟨_,_,_,h2,by decide⟩)
theorem NodesOwn.kept{base base0 B:Nat}{W W':World}{v:Value}{lc:List NdC}(o:NodesOwn base W v lc)(hk:KeptW base0 B W W')(hB:B<base): NodesOwn base W' v lc :=
 OwnAt.same o fun b h=>by
  obtain⟨h1,cs,h2⟩:=OwnAt.block o h;exact hk.2 b (heap_lt h2) (by omega) (.inr ⟨_,_,_,h2,by decide⟩)
theorem NodesIn.kept{base base0 B:Nat}{W W':World}{lc:List NdC}{l:List Gr.Nd}(h:NodesIn base W lc l)(hk:KeptW base0 B W W')(hB:B<base): NodesIn base W' lc l :=
 Rel.mono (fun c n ⟨h1,h2⟩=>⟨(h2.kept hk hB).is h1,h2.kept hk hB⟩) h
theorem OwnsNd.apartF{base base0 B:Nat}{W:World}{c:NdC}{n:Gr.Nd}(o:OwnsNd base W c n)(hB:B<base): Apart base0 B W c.vf:=by
 rintro b off ⟨m,k,e⟩;have h:c.vf.ownBlock=some b:=by rw[e];rfl
 obtain⟨h1,cs,h2⟩:=OwnAt.block o.1 h;exact⟨.inr ⟨_,_,_,h2,by decide⟩,by omega⟩
theorem OwnsNd.apartP{base base0 B:Nat}{W:World}{c:NdC}{n:Gr.Nd}(o:OwnsNd base W c n)(hB:B<base): Apart base0 B W c.vp:=by
 rintro b off ⟨m,k,e⟩;have h:c.vp.ownBlock=some b:=by rw[e];rfl
 obtain⟨h1,cs,h2⟩:=OwnAt.block o.2 h;exact⟨.inr ⟨_,_,_,h2,by decide⟩,by omega⟩
theorem putNd_len{n:Gr.Nd}{lp:Int}(h:Gr.OkB fitsP lp n): (Gr.putNd putI n).length≤300:=by
 have h1:=putI_len n.prog h.p;have h2:=h.m;have h3:=h.ol;unfold Gr.putNd;simp only[List.length_append,Oc.be_len,Oc.bes_len];omega
theorem flat_len{lp:Int}: ∀{l:List Gr.Nd},(∀n∈l,Gr.OkB fitsP lp n)→(l.flatMap (Gr.putNd putI)).length≤l.length*300
 | [],_=>by simp
 |n::l,h=>by
  have h1:=putNd_len (h n (List.mem_cons_self ..));have h2:=flat_len (l:=l) fun m hm=>h m (List.mem_cons_of_mem _ hm)
  rw[List.flatMap_cons,List.length_append,List.length_cons];omega
theorem take_flat{β:Type}(f:Gr.Nd→List β)(l:List Gr.Nd)(k:Nat)(h:k<l.length): (l.take (k+1)).flatMap f=(l.take k).flatMap f++f l[k]:=by
 rw[List.take_succ_eq_append_getElem h,List.flatMap_append];simp
theorem NodesIn.openO{base:Nat}{w:World}{v:Value}{lc:List NdC}{l:List Gr.Nd}(h:NodesIn base w lc l)(ho:NodesOwn base w v lc): ∃a cap,v = .slice a l.length cap∧∀i (hi:i<l.length),∃b off c,a=some ⟨b,off,none⟩∧Pre b w∧NodeIs w c l[i]∧OwnsNd base w c l[i] ∧
  w.cell? ⟨b,off+i*13,none⟩=some (.int .i64 c.id)∧w.cell? ⟨b,off+i*13+1,none⟩=some (.int .i64 c.kind)∧w.cell? ⟨b,off+i*13+2,none⟩=some (.slice c.af c.nf c.cf)∧w.cell? ⟨b,off+i*13+3,none⟩=some (.slice c.ap c.np c.cp)∧w.cell? ⟨b,off+i*13+4,none⟩=some (.int .i64 c.par) ∧
  w.cell? ⟨b,off+i*13+5,none⟩=some (.int .i64 c.r0)∧w.cell? ⟨b,off+i*13+6,none⟩=some (.int .i64 c.r1)∧w.cell? ⟨b,off+i*13+7,none⟩=some (.int .i64 c.r2)∧w.cell? ⟨b,off+i*13+8,none⟩=some (.int .i64 c.r3)∧w.cell? ⟨b,off+i*13+9,none⟩=some (.int .i64 c.r4)∧w.cell? ⟨b,off+i*13+10,none⟩=some (.int .i64 c.r5)∧w.cell? ⟨b,off+i*13+11,none⟩=some (.int .i64 c.r6)∧w.cell? ⟨b,off+i*13+12,none⟩=some (.int .i64 c.r7):=by
 have hl:=Rel.len h;obtain⟨a,cap,rfl,hm,hx⟩:=OwnAt.rows ho encNd_len;refine⟨a,cap,by rw[hl],fun i hi=>?_⟩;have hi':i<lc.length:=by omega
 obtain⟨b,off,rfl,hc⟩:=hx (by intro e;subst e;simp at hi');obtain⟨hn,hw⟩:=Rel.get h i lc[i] l[i] (List.getElem?_eq_getElem hi') (List.getElem?_eq_getElem hi);have hj:=fun j u=>hc i lc[i] (List.getElem?_eq_getElem hi') j u
 have h0:=hj 0 _ rfl;exact⟨b,off,lc[i],rfl,Pre.mk (World.block_lt_of_cell? w _ h0),hn,hw,h0,hj 1 _ rfl,hj 2 _ rfl,hj 3 _ rfl,hj 4 _ rfl,hj 5 _ rfl,hj 6 _ rfl,hj 7 _ rfl,hj 8 _ rfl,hj 9 _ rfl,hj 10 _ rfl,hj 11 _ rfl,hj 12 _ rfl⟩
theorem safe_fits{p:List Vm.Ins}(h:Vm.safe p=true): fitsP p:=by
 unfold Vm.safe at h;obtain⟨c,hc⟩:=Option.isSome_iff_exists.1 h;exact Vm.checkC_fits hc
theorem putGraph_any(w0 W:World)(B:Nat)(vb:Value)(ys:List UInt8)(v:Value)(l:List Gr.Nd)(hw:WriterAt w0.heap.size B W vb ys)(hg:Grew w0 W)(hv:NodesAt w0 v l)(hs:Small l)(hr:Gr.RightR l)(hlen:ys.length≤4000):
  Calls Tryz.prog 92 #[.pointer (some ⟨B,0,none⟩),v] W (PutPost w0 W B (ys++Gr.putG putI l)):=by
 have h8:=hr.len;have hok:∀n∈l,Gr.OkB fitsP 1 n:=hr.okB (by unfold fitsP;rfl) (fun p hp=>safe_fits hp) hv.r8;have HW:=hY hw;have HG:=hY hg;have HV:=hY hv;have HS:=hY hs;have HR:=hY hr;have HOK:=hY hok;have hBlt:=(Array.getElem?_eq_some_iff.1 hw.2.1).1;obtain⟨a,cap,rfl,hm,-⟩:=hv.openC;clear hw hg hv hs hr hok;go_enter Tryz.func92,Tryz.ntmps92
 go_wp2_with fail
 refine(writerNum_freshK w0 W B vb ys [(l.length:Int)] [.int .i64 l.length] _ _ _ HW.o HG.o rfl (by simp[go_sem]) rfl ?_ (by simp;omega)).mono ?_
 ·simp only[List.all_cons,List.all_nil,Bool.and_true];exact fits_of (by omega) (by omega)
 rintro e W1 ⟨rfl,hg1,hk1,vb1,hw1⟩;have HW1:=hY hw1;have HG1:=hY hg1;have HK1:=hY hk1;have hB1:B<W1.heap.size:=Nat.lt_of_lt_of_le hBlt hk1.1;clear hw1 hg1 hk1
 go_wp2_with fail
 refine(norm_any _ l W1 (HV.o.grew HG1.o) HS.o (by omega)).mono ?_;rintro e W2 ⟨vn,lc,l',rfl,ho,hi,hp,hso,hg2⟩;have hl':l'=Gr.normG l:=Gr.norm_unique hp hso HR.o.ids HR.o.r7;have hlc:=Rel.len hi;obtain⟨an,cn,rfl⟩:=(OwnAt.rows ho encNd_len).len;rw[hlc];rw[hlc] at ho;have hpl:=hp.length_eq;have HO:=hY ho;have HI:=hY hi;have HOK2:=hY (fun n (hn:n∈l')=>HOK.o n (hp.mem_iff.1 hn));have HG2:=hY hg2;have HL:=hY hl';have HLC:=hY hlc;have HPL:=hY hpl;have HW2:=hY (HW1.o.grew hg2);have h8':l'.length≤8:=by omega
 clear hlc ho hi hp hso hg2 hl' hpl;go_wp2
 go_loopg [14] l'.length (fun gg s14 wr=>∃(k:Nat) (vk:Value),k≤l'.length∧l'.length-k≤gg∧s14 = .int .i64 k∧Hid (WriterAt w0.heap.size B wr vk (ys++Oc.be l.length++(l'.take k).flatMap (Gr.putNd putI)))∧Hid (Grew w0 wr)∧Hid (KeptW w0.heap.size B W2 wr))
 case atStart=>exact⟨0,vb1,Nat.zero_le _,by omega,rfl,hY (by have:=HW2.o;rw[be_one] at this;simpa using this),hY (HG1.o.trans HG2.o),hY (KeptW.refl _ _ _)⟩
 case round =>
  obtain⟨k,vk,hk,hgg,rfl,HWK,HGK,HKK⟩:=hrel;by_cases hlt:k<l'.length
  ·have hi2:=HI.o.kept HKK.o hB1;obtain⟨a',cap',e,hx⟩:=hi2.openO (HO.o.kept HKK.o hB1);cases e;obtain⟨b,off,c,rfl,hb,hn,hown,c0,c1,c2,c3,c4,c5,c6,c7,c8,c9,c10,c11,c12⟩:=hx k hlt;have hok:=HOK2.o _ (List.getElem_mem hlt);have htf:=take_flat (Gr.putNd putI) l' k hlt;have hfl:=flat_len (l:=l'.take k) (lp:=1) fun n hn=>HOK2.o n (List.mem_of_mem_take hn)
   rw[List.length_take,Nat.min_eq_left hk] at hfl;have HFL:=hY hfl;have HTF:=hY htf;generalize l'[k]=y at *;have HNc:=hY hn;have HPN:=hY fun W (g:Grew wr W)=>putNode_any w0 W B vk _ c y 1 (by decide) (HWK.o.grew g) (HGK.o.trans g) (hn.grew g) ((hown.grew g).apartF hB1) ((hown.grew g).apartP hB1) hok (by simp only[List.length_append,Oc.be_len];omega)
   obtain⟨cid,kind,af,cf,ap,cp,par,r0,r1,r2,r3,r4,r5,r6,r7,rfl⟩:=HNc.o.lit;simp only at c0 c1 c2 c3 c4 c5 c6 c7 c8 c9 c10 c11 c12;clear hx hn hown hok htf hfl hi2
   go_wp2_with (go_at_call 106;refine(HPN.o _ gw).mono ?_;rintro e w5 ⟨rfl,hg5,hk5,vb5,hw5⟩;(have HW5:=hY hw5);(have HG5:=hY hg5);(have HK5:=hY ((KeptW.ofGrew (W:=wr) gw).trans hk5));clear hw5 hg5 hk5)
   go_roundg (l'.length-(k+1))
   case measure=>omega
   case rel=>exact⟨k+1,vb5,by omega,by omega,by go_num,hY (by rw[HTF.o,←List.append_assoc];exact HW5.o),HG5,hY (HKK.o.trans HK5.o)⟩
  ·obtain rfl:k=l'.length:=by omega
   go_wp2
   go_end0
   refine⟨rfl,HGK.o,((KeptW.ofGrew (W:=W) gw).trans HK1.o).trans ((KeptW.ofGrew HG2.o).trans HKK.o),vk,?_⟩;have:=HWK.o;rw[List.take_length,HL.o] at this;unfold Gr.putG;rw[←List.append_assoc];exact this
theorem putG_len{l:List Gr.Nd}(hr:Gr.RightR l)(h8:∀n∈l,n.route.length=8): (Gr.putG putI l).length≤3000:=by
 have hok:∀n∈l,Gr.OkB fitsP 1 n:=hr.okB (by unfold fitsP;rfl) (fun p hp=>safe_fits hp) h8;have hp:=Gr.normG_perm hr.ids hr.r7;have h1:=flat_len (l:=Gr.normG l) (lp:=1) fun n hn=>hok n (hp.mem_iff.1 hn)
 have h2:=hp.length_eq;have h3:=hr.len;unfold Gr.putG;rw[List.length_append,Oc.be_len];omega
theorem OwnAt.up{α:Type}{base base':Nat}{e:TypeId}{k:Nat}{enc:α→List Value}{w:World}{v:Value}{l:List α}(h:OwnAt base e k enc w v l)(hb:∀q,v.ownBlock=some q→base'≤q): OwnAt base' e k enc w v l:=by
 obtain⟨h1,h2⟩:=h;refine⟨h1,?_⟩;rcases h2 with h|⟨g,cap,cur,rfl,h3,r⟩
 ·exact .inl h
 ·exact .inr ⟨g,cap,cur,rfl,hb g rfl,r⟩
theorem Keep.app{α:Type}{e:TypeId}{k:Nat}{enc:α→List Value}{B:Nat}{w0 w W W':World}{v v':Value}{l:List α}(hk:Keep B w W)(hA:Appended w0 e k enc W v l v' W')(hi:∀q,v.ownBlock=some q→w.heap.size≤q): Keep B w W' :=
 ⟨Nat.le_trans hk.1 hA.2.2.1,fun q hq hn=>(hA.2.2.2.1 q (Nat.lt_of_lt_of_le hq hk.1) fun h=>by have:=hi q h;omega).trans (hk.2 q hq hn)⟩
theorem app_hi{α:Type}{e:TypeId}{k:Nat}{enc:α→List Value}{B:Nat}{w0 w W W':World}{v v':Value}{l:List α}(hk:Keep B w W)(hA:Appended w0 e k enc W v l v' W')(hi:∀q,v.ownBlock=some q→w.heap.size≤q): ∀q,v'.ownBlock=some q→w.heap.size≤q:=fun q hq=>by
 rcases hA.2.2.2.2 q hq with h|h
 ·exact hi q h
 ·exact Nat.le_trans hk.1 h
def GotProg(w0 w w':World)(B:Nat)(v:Value)(r:List Val×Int×List UInt8): Prop:=OwnAt w.heap.size 187 2 encI w' v r.1∧ReaderAt w0.heap.size B w' r.2.2∧Grew w0 w'∧Keep B w w'
theorem GotProg.none{w0 w w':World}{B:Nat}{r:List Val×Int×List UInt8}{e:Int}{s:List UInt8}(h:r=([],e,s))(h1:ReaderAt w0.heap.size B w' s)(h2:Grew w0 w')(h3:Keep B w w'): GotProg w0 w w' B (.slice none 0 0) r:=by
 subst h;exact⟨OwnAt.nil _,h1,h2,h3⟩
theorem GotProg.some{w0 w w':World}{B:Nat}{v:Value}{r:List Val×Int×List UInt8}{l:List Val}{e:Int}{s:List UInt8}(h:r=(l,e,s))(h0:OwnAt w.heap.size 187 2 encI w' v l)(h1:ReaderAt w0.heap.size B w' s)(h2:Grew w0 w')(h3:Keep B w w'): GotProg w0 w w' B v r:=by
 subst h;exact⟨h0,h1,h2,h3⟩
theorem codeGet_keep(w0:World)(B:Nat)(s:List UInt8)(w:World)(h:ReaderAt w0.heap.size B w s)(hg:Grew w0 w)(hs:s.length≤1000000):
  Calls Tryz.prog 192 #[.pointer (some ⟨B,0,none⟩)] w fun e w'=>∃v,e = .returned (.tuple #[v,.int .i64 (getL s).2.1])∧GotProg w0 w w' B v (getL s):=by
 have hW:=octWithin_any w0 B s 0 24 w h hg hs;have hl1:=within_len s 0 24;have hwo:=within_ok (s:=s) (a:=0) (b:=24);generalize hr:within s 0 24=r at *;obtain⟨n,e1,s1⟩:=r;simp only at hW hl1 hwo;have HW:=hY hW;have HR0:=hY hr;clear hW hr;by_cases he:e1=0
 ·subst he;obtain⟨n0,n24⟩:=hwo rfl;obtain⟨N,rfl⟩:∃N:Nat,n=N:=⟨n.toNat,by omega⟩;clear hwo;go_enter Tryz.func192,Tryz.ntmps192
  go_wp2_with (go_at_call 149;refine HW.o.mono ?_;rintro e w1 ⟨rfl,hr1,hg1,hk1⟩;(have HR1:=hY hr1);(have HG1:=hY hg1);(have HK1:=hY hk1);clear hr1 hg1 hk1)
  go_loopw [6,19] (fun v6 i wr=>∃(k:Nat) (acc:List Val) (sk:List UInt8),k≤N∧i = .int .i64 k∧acc.length=k∧readL (N-k) sk acc=readL N s1 []∧sk.length≤1000000∧OwnAt w0.heap.size 187 2 encI wr v6 acc∧ReaderAt w0.heap.size B wr sk∧Grew w0 wr∧Hid (Keep B w wr)∧Hid (∀q,v6.ownBlock=some q→w.heap.size≤q)) (fun _ i _=>N-(intOf i).toNat)
  case atStart=>exact⟨0,[],s1,Nat.zero_le _,rfl,rfl,rfl,by omega,OwnAt.nil _,HR1.o,HG1.o,HK1,hY (fun q h=>by cases h)⟩
  case round =>
   obtain⟨k,acc,sk,hk,rfl,hacc,hrd,hsk,hown,hrk,hgk,HKW,HHI⟩:=hrel;by_cases hlt:k<N
   ·have hW2:=octWithin_any w0 B sk 0 17 wr hrk hgk hsk;have hl2:=within_len sk 0 17;obtain⟨m,hm⟩:∃m,N-k=m+1:=⟨N-k-1,by omega⟩;rw[hm] at hrd;generalize hr2:within sk 0 17=r2 at *;obtain⟨op,e2,s2⟩:=r2;simp only at hW2 hl2;have hne1:=own_ne hown hrk.2 (by decide);have HW2:=hY hW2;have HRD:=hY hrd;have HO:=hY hown;have HNE:=hY hne1;have HR2:=hY hr2;have HACC:=hY hacc;have HM:=hY hm;clear hW2 hrd hown hne1 hr2 hacc hm hrk hgk;by_cases he2:e2=0
    ·subst he2;have hl3:=within_len s2 (-2147483648) 2147483647;obtain⟨a,e3,s3,hr3⟩:∃a e3 s3,numR s2=(a,e3,s3):=⟨_,_,_,rfl⟩;have hr3':within s2 (-2147483648) 2147483647=(a,e3,s3):=hr3
     have HN3:Hid (∀w2,ReaderAt w0.heap.size B w2 s2→Grew w0 w2→Calls Tryz.prog 219 #[.pointer (some ⟨B,0,none⟩)] w2 fun e w'=>e = .returned (.tuple #[.int .i64 a,.int .i64 e3])∧ReaderAt w0.heap.size B w' s3∧Grew w0 w'∧Keep B w2 w'):=hY (fun w2 h1 h2=>by
      have:=octNum_any w0 B s2 w2 h1 h2 (by omega);rw[hr3'] at this
      exact this)
     rw[hr3'] at hl3;simp only at hl3;have HR3:=hY hr3;clear hr3 hr3';by_cases he3:e3=0
     ·subst he3
      go_wp2_with (first
       | (go_at_call 149;refine HW2.o.mono ?_;rintro e w2 ⟨rfl,hq2,hg2,hk2⟩;(have HQ2:=hY hq2);(have HG2:=hY hg2);(have HK2:=hY hk2);clear hq2 hg2 hk2)
       | (go_at_call 219;refine(HN3.o _ HQ2.o HG2.o).mono ?_;rintro e w3 ⟨rfl,hq3,hg3,hk3⟩;(have HQ3:=hY hq3);(have HG3:=hY hg3);(have HO3:=hY ((HK2.o.trans hk3).own HO.o HNE.o));(have HK3:=hY (HKW.o.trans (HK2.o.trans hk3)));clear hq3 hg3 hk3)
       | (at_builtin;refine wpList_ownK (w0:=w0) rfl (.tmp 37) (.tmp 41) 49 _ _ _ _ [(op,a)] rfl Tryz.underlying49 infoIns rfl (by decide) encI_len encI_one rfl (HO3.o.grew gw) (HG3.o.alloc _) rfl (fun j u hu=>encI_at _ (op,a) _ _ rfl rfl j u (by simpa using hu)) (by simp[HACC.o];omega) (by decide) (by simp) ?_;intro v9 W9 hA9;(have hkeep9:=hA9.2.2.2.1);(have HQ9:Hid (ReaderAt w0.heap.size B W9 s3):=hY ⟨HQ3.o.1,by rw[hkeep9 B (by have:=(Array.getElem?_eq_some_iff.1 HQ3.o.2).1;simp[go_sem];omega) (own_ne HO3.o HQ3.o.2 (by decide))];exact heap_alloc_old HQ3.o.2 _⟩);(have HK9:=hY (Keep.app (HK3.o.trans (Keep.ofGrew gw)) hA9 HHI.o));(have HHI9:=hY (app_hi (HK3.o.trans (Keep.ofGrew gw)) hA9 HHI.o));(have HA9:=hY hA9);clear hkeep9 hA9)
       )
      go_roundw
      case rel =>
       refine⟨k+1,acc++[(op,a)],s3,by omega,by go_num,by rw[List.length_append,HACC.o];rfl,?_,by omega,HA9.o.2.1,HQ9.o,HA9.o.1,HK9,HHI9⟩;have h1:=HRD.o;rw[readL_ok HR2.o HR3.o] at h1;rw[←h1]
       congr 1
       have:=HM.o;omega
      case measure=>first|(simp[intOf];done)|(simp[intOf];omega)
     ·have hne3:(e3 != 0)=true:=by rw[bne_iff_ne];exact he3
      have hGe:getL s=([],e3,s3):=getL_bad HR0.o (by rw[←HRD.o,readL_bad2 HR2.o HR3.o he3]) he3;have HGE:=hY hGe;clear hGe he3
      go_wp2_with (first
       | (go_at_call 149;refine HW2.o.mono ?_;rintro e w2 ⟨rfl,hq2,hg2,hk2⟩;(have HQ2:=hY hq2);(have HG2:=hY hg2);(have HK2:=hY hk2);clear hq2 hg2 hk2)
       | (go_at_call 219;refine(HN3.o _ HQ2.o HG2.o).mono ?_;rintro e w3 ⟨rfl,hq3,hg3,hk3⟩;(have HQ3:=hY hq3);(have HG3:=hY hg3);(have HK3:=hY hk3);clear hq3 hg3 hk3)
       )
      exact bodyPost_ret (v:=.tuple #[.slice none 0 0,.int .i64 e3]) (by simp[results,Tryz.results192,go_sem]) rfl ⟨_,by rw[HGE.o],GotProg.none HGE.o HQ3.o HG3.o (HKW.o.trans (HK2.o.trans HK3.o))⟩
    ·have hne2:(e2 != 0)=true:=by rw[bne_iff_ne];exact he2
     have hGe:getL s=([],e2,s2):=getL_bad HR0.o (by rw[←HRD.o,readL_bad1 HR2.o he2]) he2;have HGE:=hY hGe;clear hGe he2
     go_wp2_with (go_at_call 149;refine HW2.o.mono ?_;rintro e w2 ⟨rfl,hq2,hg2,hk2⟩;(have HQ2:=hY hq2);(have HG2:=hY hg2);(have HK2:=hY hk2);clear hq2 hg2 hk2)
     exact bodyPost_ret (v:=.tuple #[.slice none 0 0,.int .i64 e2]) (by simp[results,Tryz.results192,go_sem]) rfl ⟨_,by rw[HGE.o],GotProg.none HGE.o HQ2.o HG2.o (HKW.o.trans HK2.o)⟩
   ·obtain rfl:k=N:=by omega
    have hrd2:readL k s1 []=(acc,0,sk):=by rw[←hrd,Nat.sub_self];rfl
    have hGe:=getL_fit HR0.o hrd2;have hrows:ValsAt wr u6 acc:=hown.rows encI_len;have HRO:=hY hrows;have HOW:=hY hown;have HRK:=hY hrk;have HGK:=hY hgk;clear hrd hrd2 hown hrows hrk hgk;cases hf:Co.fitsI acc
    ·rw[hf] at hGe;have hGe2:getL s=([],4,sk):=hGe.trans (if_neg (by decide));have HGE:=hY hGe2;have HF:=hY hf;clear hGe hGe2 hf
     go_wp2_with (go_at_call 191;refine(codeFits_any _ acc _ HRO.o).mono ?_;rintro e w2 ⟨rfl,R5,n5,rfl⟩;rw[HF.o])
     exact bodyPost_ret (v:=.tuple #[.slice none 0 0,.int .i64 4]) (by simp[results,Tryz.results192,go_sem]) rfl ⟨_,by rw[HGE.o],GotProg.none HGE.o (HRK.o.grew gw) (HGK.o.more _ _) (HKW.o.trans (Keep.ofGrew gw))⟩
    ·rw[hf] at hGe;have hGe2:getL s=(acc,0,sk):=hGe.trans (if_pos rfl);have HGE:=hY hGe2;have HF:=hY hf;clear hGe hGe2 hf
     go_wp2_with (go_at_call 191;refine(codeFits_any _ acc _ HRO.o).mono ?_;rintro e w2 ⟨rfl,R5,n5,rfl⟩;rw[HF.o])
     exact bodyPost_ret (v:=.tuple #[u6,.int .i64 0]) (by simp[results,Tryz.results192,go_sem]) rfl ⟨_,by rw[HGE.o],GotProg.some HGE.o (OwnAt.up (HOW.o.grew gw) HHI.o) (HRK.o.grew gw) (HGK.o.more _ _) (HKW.o.trans (Keep.ofGrew gw))⟩
 ·have hGe:getL s=([],e1,s1):=by rw[getL_of HR0.o,if_pos he]
  have HGE:=hY hGe;have hne:(e1 != 0)=true:=by rw[bne_iff_ne];exact he
  clear hGe hwo he;go_enter Tryz.func192,Tryz.ntmps192
  go_wp2_with (go_at_call 149;refine HW.o.mono ?_;rintro e w1 ⟨rfl,hr1,hg1,hk1⟩;(have HR1:=hY hr1);(have HG1:=hY hg1);(have HK1:=hY hk1);clear hr1 hg1 hk1)
  exact bodyPost_ret (v:=.tuple #[.slice none 0 0,.int .i64 e1]) (by simp[results,Tryz.results192,go_sem]) rfl ⟨_,by rw[HGE.o],GotProg.none HGE.o HR1.o HG1.o HK1.o⟩
def RdAt(base A B:Nat)(W:World)(s:Gr.Rs): Prop:=base≤A∧W.heap[A]? = some (.cells #[.pointer (some ⟨B,0,none⟩),.int .i64 s.2] 161)∧ReaderAt base B W s.1
def Keep2(A B:Nat)(w w':World): Prop:=w.heap.size≤w'.heap.size∧∀q,q<w.heap.size→q≠A→q≠B→w'.heap[q]? = w.heap[q]?
theorem Keep2.refl(A B:Nat)(w:World): Keep2 A B w w:=⟨Nat.le_refl _,fun _ _ _ _=>rfl⟩
theorem Keep2.trans{A B:Nat}{a b c:World}(h:Keep2 A B a b)(k:Keep2 A B b c): Keep2 A B a c :=
 ⟨Nat.le_trans h.1 k.1,fun q hq h1 h2=>(k.2 q (Nat.lt_of_lt_of_le hq h.1) h1 h2).trans (h.2 q hq h1 h2)⟩
theorem Keep2.ofGrew{A B:Nat}{w w':World}(g:Grew w w'): Keep2 A B w w':=⟨g.below.size,fun q hq _ _=>g.below.block q hq⟩
theorem Keep2.ofKeep{A B:Nat}{w w':World}(k:Keep B w w'): Keep2 A B w w':=⟨k.1,fun q hq _ h=>k.2 q hq h⟩
theorem Keep2.set{A B:Nat}{w:World}{o:Nat}{v:Value}: Keep2 A B w (w.setCell ⟨A,o,none⟩ v):=⟨by rw[World.size_setCell];exact Nat.le_refl _,fun q hq h _=>set_other fun e=>h e.symm⟩
theorem RdAt.ne{base A B:Nat}{W:World}{s:Gr.Rs}(h:RdAt base A B W s): A≠B:=fun e=>by
 have h1:=h.2.1;rw[e,h.2.2.2] at h1;cases h1
theorem RdAt.grew{base A B:Nat}{W W':World}{s:Gr.Rs}(h:RdAt base A B W s)(g:Grew W W'): RdAt base A B W' s:=⟨h.1,grew_heap g h.2.1,h.2.2.grew g⟩
theorem RdAt.put{base A B:Nat}{W W1:World}{s:Gr.Rs}{z:List UInt8}{e:Int}(h:RdAt base A B W s)(hr:ReaderAt base B W1 z)(hk:Keep B W W1): W1.heap[A]? = some (.cells #[.pointer (some ⟨B,0,none⟩),.int .i64 s.2] 161)∧RdAt base A B (W1.setCell ⟨A,1,none⟩ (.int .i64 e)) (z,e):=by
 have hA:W1.heap[A]? = some (.cells #[.pointer (some ⟨B,0,none⟩),.int .i64 s.2] 161):=by rw[hk.2 A (heap_lt h.2.1) h.ne];exact h.2.1
 exact⟨hA,h.1,by rw[set_self hA];rfl,hr.1,by rw[set_other h.ne];exact hr.2⟩
theorem wn_len(s:List UInt8)(a b:Int): (Gr.wn s a b).2.2.length≤s.length:=within_len s a b
theorem numS_len(a b:Int)(s:Gr.Rs): (Gr.numS a b s).2.1.length≤s.1.length:=by
 unfold Gr.numS;split
 ·exact Nat.le_refl _
 ·exact wn_len _ _ _
theorem numS_range{a b:Int}(s:Gr.Rs)(ha:a≤0)(hb:0≤b): a≤(Gr.numS a b s).1∧(Gr.numS a b s).1≤b:=by
 unfold Gr.numS;split
 ·exact⟨ha,hb⟩
 ·unfold Gr.wn;split
  ·exact⟨ha,hb⟩
  ·split
   ·exact⟨ha,hb⟩
   ·simp only;omega
def RdPost(w0 W:World)(A B:Nat)(v:Value)(s:Gr.Rs)(e:Ending)(W':World): Prop:=e = .returned v∧RdAt w0.heap.size A B W' s∧Grew w0 W'∧Keep2 A B W W'
theorem rdNum_any(w0:World)(A B:Nat)(s:Gr.Rs)(a b:Int)(W:World)(h:RdAt w0.heap.size A B W s)(hg:Grew w0 W)(hs:s.1.length≤1000000):
  Calls Tryz.prog 98 #[.pointer (some ⟨A,0,none⟩),.int .i64 a,.int .i64 b] W (RdPost w0 W A B (.int .i64 (Gr.numS a b s).1) (Gr.numS a b s).2):=by
 have H:=hY h;have HG:=hY hg;have c0:=cell_of (o:=0) h.2.1;have c1:=cell_of (o:=1) h.2.1;have f1:=frozen_of (o:=1) h.2.1;have hpA:=Pre.mk (heap_lt h.2.1);simp at c0 c1;obtain⟨z,x⟩:=s;simp only at hs c1;by_cases he:x=0
 ·subst he;have hn:Gr.numS a b (z,0)=((within z a b).1,((within z a b).2.2,(within z a b).2.1)):=by unfold Gr.numS;rw[if_neg (by simp)];rfl
  rw[hn];have hw:=octWithin_any w0 B z a b W h.2.2 hg hs;generalize within z a b=r at *;obtain⟨y,er,z'⟩:=r;simp only at hw ⊢;have HW:=hY hw;clear h hg hw hn;go_enter Tryz.func98,Tryz.ntmps98
  go_wp2_with (go_at_call 149;refine HW.o.mono ?_;rintro e w1 ⟨rfl,hr1,hg1,hk1⟩;obtain⟨hA1,hR1⟩:=RdAt.put (e:=er) H.o hr1 hk1;(have d1:=cell_of (o:=1) hA1);(have g1:=frozen_of (o:=1) hA1);(have pA1:=Pre.mk (heap_lt hA1));simp at d1;(have HR1:=hY hR1);(have HG1:=hY hg1);(have HK1:=hY hk1);clear hr1 hg1 hk1 hA1 hR1)
  go_ret;exact⟨rfl,HR1.o,HG1.o.set H.o.1 _,(Keep2.ofKeep HK1.o).trans Keep2.set⟩
 ·rw[Gr.numS_err a b (s:=(z,x)) he];have he2:(x != 0)=true:=by rw[bne_iff_ne];exact he
  clear h hg he;go_enter Tryz.func98,Tryz.ntmps98;go_wp2;go_ret;exact⟨rfl,H.o,HG.o,Keep2.refl _ _ _⟩
theorem listS_succ(a b:Int): ∀(k:Nat) (s:Gr.Rs),Gr.listS a b (k+1) s=((Gr.listS a b k s).1++[(Gr.numS a b (Gr.listS a b k s).2).1],(Gr.numS a b (Gr.listS a b k s).2).2)
 | 0,s=>rfl
 |k+1,s=>by
  have ih:=listS_succ a b k (Gr.numS a b s).2;rw[Gr.listS,ih];rfl
theorem listS_len(a b:Int): ∀(k:Nat) (s:Gr.Rs),(Gr.listS a b k s).1.length=k∧(Gr.listS a b k s).2.1.length≤s.1.length
 | 0,s=>⟨rfl,Nat.le_refl _⟩
 |k+1,s=>by
  obtain⟨h1,h2⟩:=listS_len a b k (Gr.numS a b s).2;have h3:=numS_len a b s;refine⟨?_,?_⟩
  ·rw[Gr.listS,List.length_cons,h1]
  ·rw[Gr.listS];exact Nat.le_trans h2 h3
theorem OwnAt.keep2{α:Type}{base base0 A B:Nat}{e:TypeId}{k:Nat}{enc:α→List Value}{w w':World}{v:Value}{l:List α}{s:Gr.Rs}(h:OwnAt base e k enc w v l)(hk:Keep2 A B w w')(hr:RdAt base0 A B w s)(h1:e≠161:=by decide)(h2:e≠214:=by decide): OwnAt base e k enc w' v l :=
 OwnAt.same h fun b hb=>by
  obtain⟨_,cs,hc⟩:=OwnAt.block h hb;refine hk.2 b (heap_lt hc) (fun q=>?_) fun q=>?_
  ·subst q;have:=hr.2.1;rw[hc] at this;cases this;exact h1 rfl
  ·subst q;have:=hr.2.2.2;rw[hc] at this;cases this;exact h2 rfl
theorem RdAt.app{α:Type}{base base0 A B:Nat}{e:TypeId}{k:Nat}{enc:α→List Value}{w0 W W':World}{v v':Value}{l l2:List α}{s:Gr.Rs}(h:RdAt base A B W s)(ho:OwnAt base0 e k enc W v l)(hA:Appended w0 e k enc W v l2 v' W')(h1:161≠e:=by decide)(h2:214≠e:=by decide): RdAt base A B W' s :=
 ⟨h.1,by rw[hA.2.2.2.1 A (heap_lt h.2.1) (OwnAt.other ho h.2.1 h1)];exact h.2.1,h.2.2.1,by rw[hA.2.2.2.1 B (heap_lt h.2.2.2) (OwnAt.other ho h.2.2.2 h2)];exact h.2.2.2⟩
theorem Keep2.app{α:Type}{e:TypeId}{k:Nat}{enc:α→List Value}{A B:Nat}{w0 w W W':World}{v v':Value}{l:List α}(hk:Keep2 A B w W)(hA:Appended w0 e k enc W v l v' W')(hi:∀q,v.ownBlock=some q→w.heap.size≤q): Keep2 A B w W'∧∀q,v'.ownBlock=some q→w.heap.size≤q :=
 ⟨⟨Nat.le_trans hk.1 hA.2.2.1,fun q hq h1 h2=>(hA.2.2.2.1 q (Nat.lt_of_lt_of_le hq hk.1) fun h=>by have:=hi q h;omega).trans (hk.2 q hq h1 h2)⟩,fun q hq=>by
  rcases hA.2.2.2.2 q hq with h|h
  ·exact hi q h
  ·exact Nat.le_trans hk.1 h⟩
def RdList(w0 W:World)(A B:Nat)(l:List Int)(s:Gr.Rs)(e:Ending)(W':World): Prop:=∃v,e = .returned v∧OwnAt W.heap.size 3 1 encN W' v l∧RdAt w0.heap.size A B W' s∧Grew w0 W'∧Keep2 A B W W'
theorem rdList_any(w0:World)(A B:Nat)(s:Gr.Rs)(m a b:Int)(W:World)(h:RdAt w0.heap.size A B W s)(hg:Grew w0 W)(hs:s.1.length≤1000000)(hm:0≤m)(hm2:m≤1000):
  Calls Tryz.prog 99 #[.pointer (some ⟨A,0,none⟩),.int .i64 m,.int .i64 a,.int .i64 b] W (RdList w0 W A B (Gr.listS a b (Gr.numS 0 m s).1.toNat (Gr.numS 0 m s).2).1 (Gr.listS a b (Gr.numS 0 m s).1.toNat (Gr.numS 0 m s).2).2):=by
 have hn:=rdNum_any w0 A B s 0 m W h hg hs;have hr:=numS_range (a:=0) (b:=m) s (by omega) hm;have hl:=numS_len 0 m s;generalize Gr.numS 0 m s=r at *;obtain⟨n,s1⟩:=r;simp only at hn hr hl ⊢;obtain⟨N,rfl⟩:∃N:Nat,n=N:=⟨n.toNat,by omega⟩;rw[Int.toNat_natCast];have HN:=hY hn;have hBlt:=heap_lt h.2.2.2;clear h hg hn;go_enter Tryz.func99,Tryz.ntmps99
 go_wp2_with (go_at_call 98;refine HN.o.mono ?_;rintro e w1 ⟨rfl,hr1,hg1,hk1⟩;(have HR1:=hY hr1);(have HG1:=hY hg1);(have HK1:=hY hk1);clear hr1 hg1 hk1)
 go_loopg [9,13] N (fun gg s9 s13 wr=>∃(k:Nat) (vk:Value),k≤N∧N-k≤gg∧s13 = .int .i64 k∧vk=s9∧Hid (OwnAt w0.heap.size 3 1 encN wr vk (Gr.listS a b k s1).1)∧Hid (RdAt w0.heap.size A B wr (Gr.listS a b k s1).2)∧Hid (Grew w0 wr)∧Hid (Keep2 A B W wr)∧Hid (∀q,vk.ownBlock=some q→W.heap.size≤q))
 case atStart=>exact⟨0,_,Nat.zero_le _,by omega,rfl,rfl,hY (OwnAt.nil _),HR1,HG1,HK1,hY fun q h=>by cases h⟩
 case round =>
  obtain⟨k,vk,hk,hgg,rfl,rfl,HO,HR,HG,HK,HI⟩:=hrel;obtain⟨hl1,hl2⟩:=listS_len a b k s1;by_cases hlt:k<N
  ·have hsc:=listS_succ a b k s1;have hnum:=rdNum_any w0 A B (Gr.listS a b k s1).2 a b wr HR.o HG.o (by omega);have HSC:=hY hsc;have HNUM:=hY hnum;obtain⟨ak,ck,rfl⟩:=(HO.o.rows encN_len).len;have HL1:=hY hl1;clear hsc hnum hl1 hl2;generalize Gr.numS a b (Gr.listS a b k s1).2=y at *;obtain⟨y1,y2⟩:=y;simp only at HNUM HSC;generalize hLS:Gr.listS a b k s1=LS at *;have HLS:=hY hLS;clear hLS
   go_wp2_with (first
    | (go_at_call 98;refine HNUM.o.mono ?_;rintro e w2 ⟨rfl,hr2,hg2,hk2⟩;(have HR2:=hY hr2);(have HG2:=hY hg2);(have HK2:=hY hk2);(have HO2:=hY (OwnAt.keep2 HO.o hk2 HR.o));clear hr2 hg2 hk2)
    | (at_builtin;go_loud (refine wpList_ownK (w0:=w0) rfl (.tmp 15) (.tmp 20) 43 _ _ _ _ [y1] rfl Tryz.underlying43 infoInt1 rfl (by decide) encN_len encN_one rfl (OwnAt.grew HO2.o gw) (HG2.o.trans gw) rfl (int_at _ _ _ _ rfl (by simp[go_sem])) (by rw[HL1.o];simp;omega) (by decide) (by simp) ?_;intro v5 W5 hA;(have HA:=hY hA);clear hA)))
   obtain⟨q4,q5⟩:=Keep2.app (HK.o.trans (HK2.o.trans (Keep2.ofGrew gw))) HA.o HI.o;have q2:=RdAt.app (HR2.o.grew gw) (OwnAt.grew HO2.o gw) HA.o;have Q2:=hY q2;have Q4:=hY q4;have Q5:=hY q5;clear q2 q4 q5
   go_roundg (N-(k+1))
   case measure=>omega
   case rel=>exact⟨k+1,_,by omega,by omega,by go_num,rfl,hY (by rw[HSC.o];exact HA.o.2.1),hY (by rw[HSC.o];exact Q2.out),hY HA.o.1,Q4,Q5⟩
  ·obtain rfl:k=N:=by omega
   obtain⟨ak,ck,rfl⟩:=(HO.o.rows encN_len).len;go_wp2;go_ret;exact⟨_,rfl,OwnAt.up HO.o HI.o,HR.o,HG.o,HK.o⟩
theorem RdAt.setOther{base A B C:Nat}{W:World}{s:Gr.Rs}{o:Nat}{v:Value}(h:RdAt base A B W s)(hA:C≠A)(hB:C≠B): RdAt base A B (W.setCell ⟨C,o,none⟩ v) s :=
 ⟨h.1,by rw[set_other hA];exact h.2.1,h.2.2.1,by rw[set_other hB];exact h.2.2.2⟩
theorem OwnAt.setOther{α:Type}{base C:Nat}{e t:TypeId}{k:Nat}{enc:α→List Value}{W:World}{v x:Value}{l:List α}{o:Nat}{c:Array Value}{f:Nat×Nat}(h:OwnAt base e k enc W v l)(hC:W.heap[C]? = some (.cells c t f))(ht:t≠e): OwnAt base e k enc (W.setCell ⟨C,o,none⟩ x) v l :=
 OwnAt.same h fun b hb=>set_other fun q=>by
  subst q;exact own_ne h hC ht hb
def RdProg(w0 W:World)(A B:Nat)(l:List Vm.Ins)(s:Gr.Rs)(e:Ending)(W':World): Prop:=∃v,e = .returned v∧OwnAt W.heap.size 187 2 encI W' v l∧RdAt w0.heap.size A B W' s∧Grew w0 W'∧Keep2 A B W W'
theorem rdProg_any(w0:World)(A B:Nat)(s:Gr.Rs)(W:World)(h:RdAt w0.heap.size A B W s)(hg:Grew w0 W)(hs:s.1.length≤1000000):
  Calls Tryz.prog 155 #[.pointer (some ⟨A,0,none⟩)] W (RdProg w0 W A B (Gr.progS getL s).1 (Gr.progS getL s).2):=by
 have H:=hY h;have HG:=hY hg;have c0:=cell_of (o:=0) h.2.1;have c1:=cell_of (o:=1) h.2.1;have hpA:=Pre.mk (heap_lt h.2.1);simp at c0 c1;obtain⟨z,x⟩:=s;simp only at hs c1;by_cases he:x=0
 ·subst he;have hn:Gr.progS getL (z,0)=((getL z).1,((getL z).2.2,(getL z).2.1)):=by unfold Gr.progS;rw[if_neg (by simp)]
  rw[hn];have hw:=codeGet_keep w0 B z W h.2.2 hg hs;generalize getL z=r at *;obtain⟨y,er,z'⟩:=r;simp only at hw ⊢;have HW:=hY hw;clear h hg hw hn;go_enter Tryz.func155,Tryz.ntmps155
  go_wp2_with (go_at_call 192;refine HW.o.mono ?_;rintro e w1 ⟨v1,rfl,ho1,hr1,hg1,hk1⟩;simp only at ho1 hr1;obtain⟨a1,cc1,rfl⟩:=(ho1.rows encI_len).len;obtain⟨hA1,hR1⟩:=RdAt.put (e:=er) H.o hr1 hk1;(have d1:=cell_of (o:=1) hA1);(have g1:=frozen_of (o:=1) hA1);(have pA1:=Pre.mk (heap_lt hA1));simp at d1;(have HO1:=hY (OwnAt.setOther (o:=1) (x:=.int .i64 er) ho1 hA1 (by decide)));(have HR1:=hY hR1);(have HG1:=hY hg1);(have HK1:=hY hk1);clear ho1 hr1 hg1 hk1 hA1 hR1)
  go_ret;exact⟨_,rfl,HO1.o,HR1.o,HG1.o.set H.o.1 _,(Keep2.ofKeep HK1.o).trans Keep2.set⟩
 ·have hn:Gr.progS getL (z,x)=([],(z,x)):=by unfold Gr.progS;rw[if_pos he]
  rw[hn];have he2:(x != 0)=true:=by rw[bne_iff_ne];exact he
  clear h hg he hn;go_enter Tryz.func155,Tryz.ntmps155;go_wp2;go_ret;exact⟨_,rfl,OwnAt.nil _,H.o,HG.o,Keep2.refl _ _ _⟩
def endE(s:Gr.Rs)(fine:Bool): Int:=if s.2≠0 then s.2 else if decide (0<s.1.length) || !fine then 4 else 0
theorem rdEnd_any(base A B:Nat)(s:Gr.Rs)(fine:Bool)(W:World)(h:RdAt base A B W s):
  Calls Tryz.prog 103 #[.pointer (some ⟨A,0,none⟩),.bool fine] W fun e w'=>e = .returned (.int .i64 (endE s fine))∧w'=W:=by
 have c0:=cell_of (o:=0) h.2.1;have c1:=cell_of (o:=1) h.2.1;have hpA:=Pre.mk (heap_lt h.2.1);simp at c0 c1;obtain⟨z,x⟩:=s;simp only at c1;have hL:=octLeft_any base B z W h.2.2;have HL:=hY hL;clear h hL;by_cases he:x=0
 ·subst he;by_cases hz:0<z.length
  ·have hn:endE (z,0) fine=4:=by unfold endE;rw[if_neg (by simp)];simp[hz]
   rw[hn];have hz':(0:Int)<(z.length:Int):=by omega
   clear hn;go_enter Tryz.func103,Tryz.ntmps103
   go_wp2_with (go_at_call 151;refine HL.o.mono ?_;rintro e w1 ⟨rfl,rfl⟩)
   go_ret;exact⟨rfl,rfl⟩
  ·have hz':¬(0:Int)<(z.length:Int):=by omega
   cases fine with
   |true =>
    have hn:endE (z,0) true=0:=by unfold endE;rw[if_neg (by simp)];simp[hz]
    rw[hn];clear hn;go_enter Tryz.func103,Tryz.ntmps103
    go_wp2_with (go_at_call 151;refine HL.o.mono ?_;rintro e w1 ⟨rfl,rfl⟩)
    go_ret
    exact⟨rfl,rfl⟩
   |false =>
    have hn:endE (z,0) false=4:=by unfold endE;rw[if_neg (by simp)];simp
    rw[hn];clear hn;go_enter Tryz.func103,Tryz.ntmps103
    go_wp2_with (go_at_call 151;refine HL.o.mono ?_;rintro e w1 ⟨rfl,rfl⟩)
    go_ret;exact⟨rfl,rfl⟩
 ·have he2:(x != 0)=true:=by rw[bne_iff_ne];exact he
  have hn:endE (z,x) fine=x:=by unfold endE;rw[if_pos he]
  rw[hn];clear hn he;go_enter Tryz.func103,Tryz.ntmps103;go_wp2;go_ret;exact⟨rfl,rfl⟩
def nodeArr(id kind:Int)(vf vp:Value)(par:Int)(rs:List Int): Array Value:=#[.int .i64 id,.int .i64 kind,vf,vp,.int .i64 par]++(rs.map (Value.int .i64)).toArray
theorem nodeArr_set(id kind:Int)(vf vp:Value)(par:Int)(rs:List Int)(k:Nat)(y:Int): (nodeArr id kind vf vp par rs).setIfInBounds (5+k) (.int .i64 y)=nodeArr id kind vf vp par (rs.set k y):=by
 unfold nodeArr;apply Array.ext';simp only[Array.toList_setIfInBounds,Array.toList_append,List.map_set];rw[List.set_append_right _ _ (by simp)];simp
theorem nodeArr_get(id kind:Int)(vf vp:Value)(par:Int)(rs:List Int)(k:Nat)(h:k<rs.length): (nodeArr id kind vf vp par rs)[5+k]? = some (.int .i64 rs[k]):=by
 unfold nodeArr;rw[Array.getElem?_append_right (by simp)];simp[h]
def padR(l:List Int): List Int:=l++List.replicate (8-l.length) 0
theorem padR_len{l:List Int}(h:l.length≤8): (padR l).length=8:=by unfold padR;rw[List.length_append,List.length_replicate];omega
theorem padR_set{l:List Int}{y:Int}(h:l.length<8): (padR l).set l.length y=padR (l++[y]):=by
 unfold padR;rw[List.set_append_right _ _ (Nat.le_refl _),Nat.sub_self,List.length_append,List.append_assoc];obtain⟨m,hm⟩:∃m,8-l.length=m+1:=⟨7-l.length,by omega⟩;rw[hm,show 8-(l.length+[y].length)=m by simp;omega];rfl
theorem Keep2.setNew{A B C:Nat}{w W:World}{o:Nat}{v:Value}(h:Keep2 A B w W)(hC:w.heap.size≤C): Keep2 A B w (W.setCell ⟨C,o,none⟩ v) :=
 ⟨by rw[World.size_setCell];exact h.1,fun q hq h1 h2=>by rw[set_other (show C≠q by omega)];exact h.2 q hq h1 h2⟩
theorem eight(l:List Int)(h:l.length=8): ∃o0 o1 o2 o3 o4 o5 o6 o7,l=[o0,o1,o2,o3,o4,o5,o6,o7]:=by
 match l,h with
 | [o0,o1,o2,o3,o4,o5,o6,o7],_=>exact⟨o0,o1,o2,o3,o4,o5,o6,o7,rfl⟩
def RdNode(w0 W:World)(A B:Nat)(n:Gr.Nd)(s:Gr.Rs)(e:Ending)(W':World): Prop:=∃c:NdC,e = .returned (.agg #[.int .i64 c.id,.int .i64 c.kind,.slice c.af c.nf c.cf,.slice c.ap c.np c.cp,.int .i64 c.par,.int .i64 c.r0,.int .i64 c.r1,.int .i64 c.r2,.int .i64 c.r3,.int .i64 c.r4,.int .i64 c.r5,.int .i64 c.r6,.int .i64 c.r7])∧NodeIs W' c n∧OwnsNd W.heap.size W' c n∧RdAt w0.heap.size A B W' s∧Grew w0 W'∧Keep2 A B W W'
theorem set13{W:World}{q:Nat}{t:TypeId}{u0 u1 u2 u3 u4 u5 u6 u7 u8 u9 u10 u11 u12:Value}(h:W.heap[q]? = some (.cells #[u0,u1,u2,u3,u4,u5,u6,u7,u8,u9,u10,u11,u12] t))(v0 v1 v2 v3 v4 v5 v6 v7 v8 v9 v10 v11 v12:Value): (((((((((((((W.setCell ⟨q,0,none⟩ v0).setCell ⟨q,1,none⟩ v1).setCell ⟨q,2,none⟩ v2).setCell ⟨q,3,none⟩ v3).setCell ⟨q,4,none⟩ v4).setCell ⟨q,5,none⟩ v5).setCell ⟨q,6,none⟩ v6).setCell ⟨q,7,none⟩ v7).setCell ⟨q,8,none⟩ v8).setCell ⟨q,9,none⟩ v9).setCell ⟨q,10,none⟩ v10).setCell ⟨q,11,none⟩ v11).setCell ⟨q,12,none⟩ v12).heap[q]? = some (.cells #[v0,v1,v2,v3,v4,v5,v6,v7,v8,v9,v10,v11,v12] t):=by
 have h0:=set_self (o:=0) (v:=v0) h;simp at h0;have h1:=set_self (o:=1) (v:=v1) h0;simp at h1;have h2:=set_self (o:=2) (v:=v2) h1;simp at h2;have h3:=set_self (o:=3) (v:=v3) h2;simp at h3;have h4:=set_self (o:=4) (v:=v4) h3;simp at h4;have h5:=set_self (o:=5) (v:=v5) h4;simp at h5;have h6:=set_self (o:=6) (v:=v6) h5;simp at h6;have h7:=set_self (o:=7) (v:=v7) h6;simp at h7;have h8:=set_self (o:=8) (v:=v8) h7;simp at h8;have h9:=set_self (o:=9) (v:=v9) h8;simp at h9;have h10:=set_self (o:=10) (v:=v10) h9;simp at h10;have h11:=set_self (o:=11) (v:=v11) h10;simp at h11;have h12:=set_self (o:=12) (v:=v12) h11;simp at h12;exact h12
theorem res_node{W:World}{tmps:Array Value}{q:Nat}{id kind par o0 o1 o2 o3 o4 o5 o6 o7:Int}{vf vp:Value}(hs:tmps.size=32)(ht:tmps[4]? = some (.pointer (some ⟨q,0,none⟩)))(h:W.heap[q]? = some (.cells #[.int .i64 id,.int .i64 kind,vf,vp,.int .i64 par,.int .i64 o0,.int .i64 o1,.int .i64 o2,.int .i64 o3,.int .i64 o4,.int .i64 o5,.int .i64 o6,.int .i64 o7] 52)):
  (results Tryz.f107 tmps).run Tryz.prog W = .ok (.agg #[.int .i64 id,.int .i64 kind,vf,vp,.int .i64 par,.int .i64 o0,.int .i64 o1,.int .i64 o2,.int .i64 o3,.int .i64 o4,.int .i64 o5,.int .i64 o6,.int .i64 o7]) W:=by
 have c0:=cell_of (o:=0) h;have c1:=cell_of (o:=1) h;have c2:=cell_of (o:=2) h;have c3:=cell_of (o:=3) h;have c4:=cell_of (o:=4) h;have c5:=cell_of (o:=5) h;have c6:=cell_of (o:=6) h;have c7:=cell_of (o:=7) h;have c8:=cell_of (o:=8) h;have c9:=cell_of (o:=9) h;have c10:=cell_of (o:=10) h;have c11:=cell_of (o:=11) h;have c12:=cell_of (o:=12) h;have ht2:tmps.getD 4 undef = .pointer (some ⟨q,0,none⟩):=by rw[Array.getD_eq_getD_getElem?,ht];rfl
 simp at c0 c1 c2 c3 c4 c5 c6 c7 c8 c9 c10 c11 c12;simp[results,Tryz.results107,go_sem,ht,c0,c1,c2,c3,c4,c5,c6,c7,c8,c9,c10,c11,c12]
theorem rdNode_made{w0 W W':World}{A B:Nat}(c:NdC){n:Gr.Nd}{s:Gr.Rs}(hi:n.id=c.id)(hk:n.kind=c.kind)(hp:n.par=c.par)(hr:n.route=[c.r0,c.r1,c.r2,c.r3,c.r4,c.r5,c.r6,c.r7])
  (o1:OwnAt W.heap.size 3 1 encN W' c.vf n.frm) (o2:OwnAt W.heap.size 187 2 encI W' c.vp n.prog) (h1:RdAt w0.heap.size A B W' s) (h2:Grew w0 W') (h3:Keep2 A B W W'):RdNode w0 W A B n s (.returned (.agg #[.int .i64 c.id,.int .i64 c.kind,.slice c.af c.nf c.cf,.slice c.ap c.np c.cp,.int .i64 c.par,.int .i64 c.r0,.int .i64 c.r1,.int .i64 c.r2,.int .i64 c.r3,.int .i64 c.r4,.int .i64 c.r5,.int .i64 c.r6,.int .i64 c.r7])) W' :=
 ⟨c,rfl,⟨hi,hk,o1.rows encN_len,o2.rows encI_len,hp,hr,OwnAt.cap o1⟩,⟨o1,o2⟩,h1,h2,h3⟩
theorem rdNode_any(w0:World)(A B:Nat)(s:Gr.Rs)(lp:Int)(hlp:lp≤0∨lp≤3)(W:World)(h:RdAt w0.heap.size A B W s)(hg:Grew w0 W)(hs:s.1.length≤1000000):
  Calls Tryz.prog 107 #[.pointer (some ⟨A,0,none⟩),.int .i64 lp] W (RdNode w0 W A B (Gr.nodeS getL lp s).1 (Gr.nodeS getL lp s).2):=by
 have hAlt:=heap_lt h.2.1;have hBlt:=heap_lt h.2.2.2;have hAB:=h.ne;have HH:=hY h;have HG:=hY hg;clear h hg;have n1:=rdNum_any w0 A B s 0 7;have l1:=numS_len 0 7 s;obtain⟨id,s1,e1⟩:∃x t,Gr.numS 0 7 s=(x,t):=⟨_,_,rfl⟩;rw[e1] at n1 l1;have n2:=rdNum_any w0 A B s1 0 2;have l2:=numS_len 0 2 s1;obtain⟨kind,s2,e2⟩:∃x t,Gr.numS 0 2 s1=(x,t):=⟨_,_,rfl⟩;rw[e2] at n2 l2;have n3:=rdList_any w0 A B s2 3 0 7;have l3:=(listS_len 0 7 (Gr.numS 0 3 s2).1.toNat (Gr.numS 0 3 s2).2).2;have l3':=numS_len 0 3 s2;obtain⟨fr,s3,e3⟩:∃x t,Gr.listS 0 7 (Gr.numS 0 3 s2).1.toNat (Gr.numS 0 3 s2).2=(x,t):=⟨_,_,rfl⟩;rw[e3] at n3 l3;have n4:=rdProg_any w0 A B s3;have l4:=progS_len s3;obtain⟨pr,s4,e4⟩:∃x t,Gr.progS getL s3=(x,t):=⟨_,_,rfl⟩;rw[e4] at n4 l4;have n5:=rdNum_any w0 A B s4 lp 3;have l5:=numS_len lp 3 s4;obtain⟨par,s5,e5⟩:∃x t,Gr.numS lp 3 s4=(x,t):=⟨_,_,rfl⟩;rw[e5] at n5 l5
 have hres:Gr.nodeS getL lp s=(⟨id,kind,fr,pr,par,(Gr.listS 0 2 8 s5).1⟩,(Gr.listS 0 2 8 s5).2):=by
  unfold Gr.nodeS;simp only[e1,e2,e3,e4,e5]
 rw[hres];simp only at n1 n2 n3 n4 n5 l1 l2 l3 l4 l5;have N1:=hY n1;have N2:=hY n2;have N3:=hY n3;have N4:=hY n4;have N5:=hY n5;clear hres e1 e2 e3 e4 e5 n1 n2 n3 n4 n5;have HT4:=hY (heap_new_at W (.cells #[.int .i64 0,.int .i64 0,.slice none 0 0,.slice none 0 0,.int .i64 0,.int .i64 0,.int .i64 0,.int .i64 0,.int .i64 0,.int .i64 0,.int .i64 0,.int .i64 0,.int .i64 0] 52) _ rfl);go_enter Tryz.func107,Tryz.ntmps107
 go_wp2_with fail
 refine(N1.out _ (HH.o.grew gw) (HG.o.trans gw) hs).mono ?_;rintro e W1 ⟨rfl,r1,g1,k1⟩;have R1:=hY r1;have G1:=hY g1;have K1:=hY k1;clear r1 g1 k1
 go_wp2_with fail
 refine(N2.out _ R1.out G1.out (by omega)).mono ?_;rintro e W2 ⟨rfl,r2,g2,k2⟩;have R2:=hY r2;have G2:=hY g2;have K2:=hY (K1.out.trans k2);have z1:=k2.1;have z2:=K1.out.1;rw[World.size_alloc] at z2;clear r2 g2 k2;have h5:=heap_new_at W2 (.cells #[.int .i64 id,.int .i64 kind,.slice none 0 0,.slice none 0 0,.int .i64 0,.int .i64 0,.int .i64 0,.int .i64 0,.int .i64 0,.int .i64 0,.int .i64 0,.int .i64 0,.int .i64 0] 52) _ rfl;have H5:=hY h5;clear h5
 go_wp2_with fail
 refine(N3.out _ (R2.out.grew gw) (G2.out.trans gw) (by omega) (by decide) (by decide)).mono ?_;rintro e W3 ⟨vf,rfl,o3,r3,g3,k3⟩;have h53:=k3.2 W2.heap.size (by rw[World.size_alloc];omega) (by omega) (by omega);rw[H5.o] at h53;obtain⟨af,cf,rfl⟩:=(o3.rows encN_len).len;have z3:=k3.1;rw[World.size_alloc] at z3;have q2:=cell_of (o:=2) h53;have f2:=frozen_of (o:=2) h53;have p2:=Pre.mk (heap_lt h53);simp at q2;have R3:=hY r3;have G3:=hY g3;have K3:=hY ((K2.out.trans (Keep2.ofGrew gw)).trans k3);have O3:=hY o3;have H53:=hY h53;clear o3 r3 g3 k3 h53;have hTA:W2.heap.size≠A:=by omega
 have hTB:W2.heap.size≠B:=by omega
 have hT0:w0.heap.size≤W2.heap.size:=G2.out.below.size;have hTW:(W.alloc (.cells #[.int .i64 0,.int .i64 0,.slice none 0 0,.slice none 0 0,.int .i64 0,.int .i64 0,.int .i64 0,.int .i64 0,.int .i64 0,.int .i64 0,.int .i64 0,.int .i64 0,.int .i64 0] 52)).heap.size≤W2.heap.size:=by rw[World.size_alloc];omega
 have R3s:=hY (RdAt.setOther (o:=2) (v:=.slice af fr.length cf) R3.out hTA hTB);have G3s:=hY (G3.out.set (o:=2) hT0 (.slice af fr.length cf));have K3s:=hY (Keep2.setNew (o:=2) (v:=.slice af fr.length cf) K3.out hTW);have O3s:=hY (OwnAt.setOther (o:=2) (x:=.slice af fr.length cf) O3.out H53.o (by decide));have h5s:(W3.setCell ⟨W2.heap.size,2,none⟩ (.slice af fr.length cf)).heap[W2.heap.size]? = some (.cells #[.int .i64 id,.int .i64 kind,.slice af fr.length cf,.slice none 0 0,.int .i64 0,.int .i64 0,.int .i64 0,.int .i64 0,.int .i64 0,.int .i64 0,.int .i64 0,.int .i64 0,.int .i64 0] 52):=by rw[set_self H53.o];rfl
 have H5s:=hY h5s;clear h5s
 go_wp2_with fail
 clear q2 f2 p2;refine(N4.out _ R3s.out G3s.out (by omega)).mono ?_;rintro e W4 ⟨vp,rfl,o4,r4,g4,k4⟩;obtain⟨ap,cp,rfl⟩:=(o4.rows encI_len).len;have h54:=k4.2 W2.heap.size (heap_lt H5s.o) hTA hTB;rw[H5s.o] at h54;have q3:=cell_of (o:=3) h54;have f3:=frozen_of (o:=3) h54;have p3:=Pre.mk (heap_lt h54);simp at q3;have R4s:=hY (RdAt.setOther (o:=3) (v:=.slice ap pr.length cp) r4 hTA hTB);have G4s:=hY (g4.set (o:=3) hT0 (.slice ap pr.length cp));have K4s:=hY (Keep2.setNew (o:=3) (v:=.slice ap pr.length cp) (K3s.out.trans k4) hTW);have O34:=hY (OwnAt.setOther (o:=3) (x:=.slice ap pr.length cp) (OwnAt.keep2 O3s.out k4 R3s.out) h54 (by decide));have O4s:=hY (OwnAt.setOther (o:=3) (x:=.slice ap pr.length cp) o4 h54 (by decide));have h5t:(W4.setCell ⟨W2.heap.size,3,none⟩ (.slice ap pr.length cp)).heap[W2.heap.size]? = some (.cells #[.int .i64 id,.int .i64 kind,.slice af fr.length cf,.slice ap pr.length cp,.int .i64 0,.int .i64 0,.int .i64 0,.int .i64 0,.int .i64 0,.int .i64 0,.int .i64 0,.int .i64 0,.int .i64 0] 52):=by rw[set_self h54];rfl
 have H5t:=hY h5t;have z4:=k4.1;rw[World.size_setCell] at z4;clear o4 r4 g4 k4 h54 h5t
 go_wp2_with fail
 clear q3 f3 p3;refine(N5.out _ R4s.out G4s.out (by omega)).mono ?_;rintro e W5 ⟨rfl,r5,g5,k5⟩;have h55:=k5.2 W2.heap.size (heap_lt H5t.o) hTA hTB;rw[H5t.o] at h55;have q4:=cell_of (o:=4) h55;have f4:=frozen_of (o:=4) h55;have p4:=Pre.mk (heap_lt h55);simp at q4;have R5s:=hY (RdAt.setOther (o:=4) (v:=.int .i64 par) r5 hTA hTB);have G5s:=hY (g5.set (o:=4) hT0 (.int .i64 par));have K5s:=hY (Keep2.setNew (o:=4) (v:=.int .i64 par) (K4s.out.trans k5) hTW);have O35:=hY (OwnAt.low (base':=W.heap.size) (OwnAt.setOther (o:=4) (x:=.int .i64 par) (OwnAt.keep2 O34.out k5 R4s.out) h55 (by decide)) (by rw[World.size_alloc];omega));have O45:=hY (OwnAt.low (base':=W.heap.size) (OwnAt.setOther (o:=4) (x:=.int .i64 par) (OwnAt.keep2 O4s.out k5 R4s.out) h55 (by decide)) (by rw[World.size_setCell];omega));have h5u:(W5.setCell ⟨W2.heap.size,4,none⟩ (.int .i64 par)).heap[W2.heap.size]? = some (.cells (nodeArr id kind (.slice af fr.length cf) (.slice ap pr.length cp) par (padR (Gr.listS 0 2 0 s5).1)) 52):=by rw[set_self h55];rfl
 have H5u:=hY h5u;clear r5 g5 k5 h55 h5u;go_wp2
 go_loopg [22] 8 (fun gg s22 wr=>∃k:Nat,k≤8∧8-k≤gg∧s22 = .int .i64 k∧Hid (RdAt w0.heap.size A B wr (Gr.listS 0 2 k s5).2)∧Hid (Grew w0 wr)∧Hid (Keep2 A B (W.alloc (.cells #[.int .i64 0,.int .i64 0,.slice none 0 0,.slice none 0 0,.int .i64 0,.int .i64 0,.int .i64 0,.int .i64 0,.int .i64 0,.int .i64 0,.int .i64 0,.int .i64 0,.int .i64 0] 52)) wr)∧Hid (wr.heap[W2.heap.size]? = some (.cells (nodeArr id kind (.slice af fr.length cf) (.slice ap pr.length cp) par (padR (Gr.listS 0 2 k s5).1)) 52))∧Hid (OwnAt W.heap.size 3 1 encN wr (.slice af fr.length cf) fr)∧Hid (OwnAt W.heap.size 187 2 encI wr (.slice ap pr.length cp) pr))
 case atStart=>exact⟨0,by omega,by omega,rfl,R5s,G5s,K5s,H5u,O35,O45⟩
 case round =>
  obtain⟨k,hk,hgg,rfl,HR,HGr,HK,HT,HF,HP⟩:=hrel;obtain⟨hl1,hl2⟩:=listS_len 0 2 k s5;by_cases hlt:k<8
  ·have hsc:=listS_succ 0 2 k s5;have hnum:=rdNum_any w0 A B (Gr.listS 0 2 k s5).2 0 2 wr HR.o HGr.o (by omega);have HSC:=hY hsc;have HNUM:=hY hnum;have HL1:=hY hl1;clear hsc hnum hl1 hl2;generalize Gr.numS 0 2 (Gr.listS 0 2 k s5).2=y at *;obtain⟨y1,y2⟩:=y;simp only at HNUM HSC;generalize hLS:Gr.listS 0 2 k s5=LS at *;have HLS:=hY hLS;clear hLS
   go_wp2_with (go_at_call 98;refine HNUM.o.mono ?_;rintro e W6 ⟨rfl,r6,g6,k6⟩;(have h56:=k6.2 W2.heap.size (heap_lt HT.o) hTA hTB);rw[HT.o] at h56;(have q6:=cell_of (o:=5+k) h56);rw[nodeArr_get _ _ _ _ _ _ _ (by rw[padR_len (by rw[HL1.o];omega)];exact hlt)] at q6;(have f6:=frozen_of (o:=5+k) h56);(have p6:=Pre.mk (heap_lt h56));(have R6:=hY r6);(have G6:=hY g6);(have K6:=hY k6);(have H56:=hY h56);clear r6 g6 k6 h56)
   have hT7:(W6.setCell ⟨W2.heap.size,5+k,none⟩ (.int .i64 y1)).heap[W2.heap.size]? = some (.cells (nodeArr id kind (.slice af fr.length cf) (.slice ap pr.length cp) par (padR (LS.1++[y1]))) 52):=by
    rw[set_self H56.o,nodeArr_set];have:=padR_set (l:=LS.1) (y:=y1) (by rw[HL1.o];exact hlt);rw[HL1.o] at this;rw[this]
   have HT7:=hY hT7;clear hT7
   go_roundg (8-(k+1))
   case measure=>omega
   case rel=>exact⟨k+1,by omega,by omega,by go_num,hY (by rw[HSC.o];exact R6.out.setOther hTA hTB),hY (G6.out.set hT0 _),hY (Keep2.setNew (HK.o.trans K6.out) hTW),hY (by rw[HSC.o];exact HT7.o),hY (OwnAt.setOther (OwnAt.keep2 HF.o K6.out HR.o) H56.o (by decide)),hY (OwnAt.setOther (OwnAt.keep2 HP.o K6.out HR.o) H56.o (by decide))⟩
  ·obtain rfl:k=8:=by omega
   generalize hLS:Gr.listS 0 2 8 s5=LS at *;obtain⟨o,s6⟩:=LS;simp only at hl1 hl2 HT HR;obtain⟨o0,o1,o2,o3,o4,o5,o6,o7,rfl⟩:=eight o hl1;have hT8:wr.heap[W2.heap.size]? = some (.cells #[.int .i64 id,.int .i64 kind,.slice af fr.length cf,.slice ap pr.length cp,.int .i64 par,.int .i64 o0,.int .i64 o1,.int .i64 o2,.int .i64 o3,.int .i64 o4,.int .i64 o5,.int .i64 o6,.int .i64 o7] 52):=HT.o;have hT4:=HK.o.2 W.heap.size (by rw[World.size_alloc];omega) (by omega) (by omega);rw[HT4.o] at hT4;have c0:=cell_of (o:=0) hT8;have c1:=cell_of (o:=1) hT8;have c2:=cell_of (o:=2) hT8;have c3:=cell_of (o:=3) hT8;have c4:=cell_of (o:=4) hT8;have c5:=cell_of (o:=5) hT8;have c6:=cell_of (o:=6) hT8;have c7:=cell_of (o:=7) hT8;have c8:=cell_of (o:=8) hT8;have c9:=cell_of (o:=9) hT8;have c10:=cell_of (o:=10) hT8;have c11:=cell_of (o:=11) hT8;have c12:=cell_of (o:=12) hT8;have d0:=cell_of (o:=0) hT4;have f0:=frozen_of (o:=0) hT4;have d1:=cell_of (o:=1) hT4;have f1:=frozen_of (o:=1) hT4;have d2:=cell_of (o:=2) hT4;have f2:=frozen_of (o:=2) hT4;have d3:=cell_of (o:=3) hT4;have f3:=frozen_of (o:=3) hT4;have d4:=cell_of (o:=4) hT4;have f4:=frozen_of (o:=4) hT4;have d5:=cell_of (o:=5) hT4;have f5:=frozen_of (o:=5) hT4;have d6:=cell_of (o:=6) hT4;have f6:=frozen_of (o:=6) hT4;have d7:=cell_of (o:=7) hT4;have f7:=frozen_of (o:=7) hT4;have d8:=cell_of (o:=8) hT4;have f8:=frozen_of (o:=8) hT4;have d9:=cell_of (o:=9) hT4;have f9:=frozen_of (o:=9) hT4;have d10:=cell_of (o:=10) hT4;have f10:=frozen_of (o:=10) hT4;have d11:=cell_of (o:=11) hT4;have f11:=frozen_of (o:=11) hT4;have d12:=cell_of (o:=12) hT4;have f12:=frozen_of (o:=12) hT4;have pT4:=Pre.mk (heap_lt hT4);have pT8:=Pre.mk (heap_lt hT8);have hne:W2.heap.size≠W.heap.size:=by omega
   have HT4b:=hY hT4;simp at c0 c1 c2 c3 c4 c5 c6 c7 c8 c9 c10 c11 c12 d0 d1 d2 d3 d4 d5 d6 d7 d8 d9 d10 d11 d12;clear hT8 hT4 hLS;go_wp2;have hA4:W.heap.size≠A:=by omega
   have hB4:W.heap.size≠B:=by omega
   have hF4:=OwnAt.other HF.o HT4b.o (by decide);have hP4:=OwnAt.other HP.o HT4b.o (by decide)
   refine bodyPost_ret (v:=.agg #[.int .i64 id,.int .i64 kind,.slice af fr.length cf,.slice ap pr.length cp,.int .i64 par,.int .i64 o0,.int .i64 o1,.int .i64 o2,.int .i64 o3,.int .i64 o4,.int .i64 o5,.int .i64 o6,.int .i64 o7])
    (res_node rfl rfl ?_) rfl
    (rdNode_made ⟨id,kind,af,fr.length,cf,ap,pr.length,cp,par,o0,o1,o2,o3,o4,o5,o6,o7⟩ rfl rfl rfl rfl ?_ ?_ ?_ ?_ ?_)
   ·exact set13 HT4b.o _ _ _ _ _ _ _ _ _ _ _ _ _
   ·exact OwnAt.same HF.o fun b hb=>by
     have:W.heap.size≠b:=fun e=>hF4 (by rw[e];exact hb)
     iterate 13 rw[set_other this]
   ·exact OwnAt.same HP.o fun b hb=>by
     have:W.heap.size≠b:=fun e=>hP4 (by rw[e];exact hb)
     iterate 13 rw[set_other this]
   ·iterate 13 refine RdAt.setOther ?_ hA4 hB4
    exact HR.o
   ·have hWW:w0.heap.size≤W.heap.size:=HG.o.below.size
    iterate 13 refine Grew.set ?_ hWW _
    exact HGr.o
   ·iterate 13 refine Keep2.setNew ?_ (Nat.le_refl _)
    exact(Keep2.ofGrew gw).trans HK.o
theorem OwnsNd.keep2{base base0 A B:Nat}{w w':World}{c:NdC}{n:Gr.Nd}{s:Gr.Rs}(o:OwnsNd base w c n)(hk:Keep2 A B w w')(hr:RdAt base0 A B w s): OwnsNd base w' c n:=⟨OwnAt.keep2 o.1 hk hr,OwnAt.keep2 o.2 hk hr⟩
theorem NodesIn.keep2{base base0 A B:Nat}{w w':World}{lc:List NdC}{l:List Gr.Nd}{s:Gr.Rs}(h:NodesIn base w lc l)(hk:Keep2 A B w w')(hr:RdAt base0 A B w s): NodesIn base w' lc l :=
 Rel.mono (fun c n ⟨h1,h2⟩=>⟨(h2.keep2 hk hr).is h1,h2.keep2 hk hr⟩) h
theorem nodeS_len(lp:Int)(s:Gr.Rs): (Gr.nodeS getL lp s).2.1.length≤s.1.length:=by
 unfold Gr.nodeS;simp only;have l1:=numS_len 0 7 s;have l2:=numS_len 0 2 (Gr.numS 0 7 s).2;generalize (Gr.numS 0 2 (Gr.numS 0 7 s).2).2=s2 at *;have l3:=numS_len 0 3 s2;have l4:=(listS_len 0 7 (Gr.numS 0 3 s2).1.toNat (Gr.numS 0 3 s2).2).2;generalize (Gr.listS 0 7 (Gr.numS 0 3 s2).1.toNat (Gr.numS 0 3 s2).2).2=s3 at *;have l5:=progS_len s3;generalize (Gr.progS getL s3).2=s4 at *;have l6:=numS_len lp 3 s4;have l7:=(listS_len 0 2 8 (Gr.numS lp 3 s4).2).2;omega
theorem nodesS_succ(lp:Int): ∀(k:Nat) (s:Gr.Rs),Gr.nodesS getL lp (k+1) s=((Gr.nodesS getL lp k s).1++[(Gr.nodeS getL lp (Gr.nodesS getL lp k s).2).1],(Gr.nodeS getL lp (Gr.nodesS getL lp k s).2).2)
 | 0,s=>rfl
 |k+1,s=>by
  have ih:=nodesS_succ lp k (Gr.nodeS getL lp s).2;rw[Gr.nodesS,ih];rfl
theorem nodesS_len(lp:Int): ∀(k:Nat) (s:Gr.Rs),(Gr.nodesS getL lp k s).1.length=k∧(Gr.nodesS getL lp k s).2.1.length≤s.1.length
 | 0,s=>⟨rfl,Nat.le_refl _⟩
 |k+1,s=>by
  obtain⟨h1,h2⟩:=nodesS_len lp k (Gr.nodeS getL lp s).2;refine⟨?_,?_⟩
  ·rw[Gr.nodesS,List.length_cons,h1]
  ·rw[Gr.nodesS];exact Nat.le_trans h2 (nodeS_len lp s)
def RdNodes(w0 W:World)(A B:Nat)(l:List Gr.Nd)(s:Gr.Rs)(e:Ending)(W':World): Prop:=∃v lc,e = .returned v∧NodesOwn W.heap.size W' v lc∧NodesIn W.heap.size W' lc l∧RdAt w0.heap.size A B W' s∧Grew w0 W'∧Keep2 A B W W'
theorem NodesIn.keepX{base base':Nat}{w w':World}{v:Value}{lc lv:List NdC}{l:List Gr.Nd}(h:NodesIn base w lc l)(ho:NodesOwn base' w v lv)(hk:∀q,q<w.heap.size→v.ownBlock≠some q→w'.heap[q]? = w.heap[q]?): NodesIn base w' lc l :=
 Rel.mono (fun c n ⟨h1,h2⟩=>by
  have h3:OwnsNd base w' c n:=h2.to2 fun q cs t hq hb hne=>hk q (heap_lt hq) (OwnAt.other ho hq hne)
  exact⟨h3.is h1,h3⟩) h
theorem nodes_round{w0 wr W2 W3 W':World}{A B base base2:Nat}{v v':Value}{lc:List NdC}{c:NdC}{l:List Gr.Nd}{y:Gr.Nd}{s s':Gr.Rs}(hr:RdAt w0.heap.size A B wr s)(ho:NodesOwn w0.heap.size wr v lc)(hn:NodesIn base wr lc l)(hb:base≤base2)
  (hk:Keep2 A B wr W2) (hr2:RdAt w0.heap.size A B W2 s') (h9:NodeIs W2 c y) (o9:OwnsNd base2 W2 c y) (g:Grew W2 W3) (hA:Appended w0 52 13 encNd W3 v (lc++[c]) v' W') :
  NodesIn base W' (lc++[c]) (l++[y])∧RdAt w0.heap.size A B W' s':=by
 have ho3:NodesOwn w0.heap.size W3 v lc:=OwnAt.grew (OwnAt.keep2 ho hk hr) g;have h5:OwnsNd base W' c y:=((o9.grew g).low hb).to2 fun q cs t hq _ hne=>hA.2.2.2.1 q (heap_lt hq) (OwnAt.other ho3 hq hne)
 exact⟨Rel.snoc (((hn.keep2 hk hr).grew g).keepX ho3 hA.2.2.2.1) ⟨h5.is h9,h5⟩,RdAt.app (hr2.grew g) ho3 hA⟩
theorem rdNodes_any(w0:World)(A B:Nat)(s:Gr.Rs)(W:World)(h:RdAt w0.heap.size A B W s)(hg:Grew w0 W)(hs:s.1.length≤1000000):
  Calls Tryz.prog 100 #[.pointer (some ⟨A,0,none⟩)] W (RdNodes w0 W A B (Gr.nodesS getL 1 (Gr.numS 0 8 s).1.toNat (Gr.numS 0 8 s).2).1 (Gr.nodesS getL 1 (Gr.numS 0 8 s).1.toNat (Gr.numS 0 8 s).2).2):=by
 have hn:=rdNum_any w0 A B s 0 8 W h hg hs;have hr:=numS_range (a:=0) (b:=8) s (by omega) (by omega);have hl:=numS_len 0 8 s;generalize Gr.numS 0 8 s=r at *;obtain⟨n,s1⟩:=r;simp only at hn hr hl ⊢;obtain⟨N,rfl⟩:∃N:Nat,n=N:=⟨n.toNat,by omega⟩;rw[Int.toNat_natCast];have HN:=hY hn;have hBlt:=heap_lt h.2.2.2;clear h hg hn;go_enter Tryz.func100,Tryz.ntmps100
 go_wp2_with (go_at_call 98;refine HN.o.mono ?_;rintro e w1 ⟨rfl,hr1,hg1,hk1⟩;(have HR1:=hY hr1);(have HG1:=hY hg1);(have HK1:=hY hk1);clear hr1 hg1 hk1)
 go_loopg [3,6] N (fun gg s3 s6 wr=>∃(k:Nat) (vk:Value) (lc:List NdC),k≤N∧N-k≤gg∧s6 = .int .i64 k∧vk=s3∧Hid (NodesOwn w0.heap.size wr vk lc)∧Hid (NodesIn W.heap.size wr lc (Gr.nodesS getL 1 k s1).1)∧Hid (RdAt w0.heap.size A B wr (Gr.nodesS getL 1 k s1).2)∧Hid (Grew w0 wr)∧Hid (Keep2 A B W wr)∧Hid (∀q,vk.ownBlock=some q→W.heap.size≤q))
 case atStart=>exact⟨0,_,[],Nat.zero_le _,by omega,rfl,rfl,hY (OwnAt.nil _),hY trivial,HR1,HG1,HK1,hY fun q h=>by cases h⟩
 case round =>
  obtain⟨k,vk,lc,hk,hgg,rfl,rfl,HO,HN2,HR,HG,HK,HI⟩:=hrel;obtain⟨hl1,hl2⟩:=nodesS_len 1 k s1;have hlc:=Rel.len HN2.o;rw[hl1] at hlc;by_cases hlt:k<N
  ·have hsc:=nodesS_succ 1 k s1;have hnum:=rdNode_any w0 A B (Gr.nodesS getL 1 k s1).2 1 (.inr (by decide)) wr HR.o HG.o (by omega);have HSC:=hY hsc;have HNUM:=hY hnum;obtain⟨ak,ck,rfl⟩:=(OwnAt.rows HO.o encNd_len).len;have HLC:=hY hlc;clear hsc hnum hl1 hl2 hlc;generalize Gr.nodeS getL 1 (Gr.nodesS getL 1 k s1).2=y at *;obtain⟨y1,y2⟩:=y;simp only at HNUM HSC;generalize hLS:Gr.nodesS getL 1 k s1=LS at *;have HLS:=hY hLS;clear hLS;have hsz:=HK.o.1
   go_wp2_with (first
    | (go_at_call 107;refine HNUM.o.mono ?_;rintro e w2 ⟨c9,rfl,hn9,ho9,hr2,hg2,hk2⟩;obtain⟨cid9,kind9,af9,cf9,ap9,cp9,par9,s0,s1,s2,s3,s4,s5,s6,s7,rfl⟩:=hn9.lit;(have HN9:=hY hn9);(have HO9:=hY ho9);(have HR2:=hY hr2);(have HG2:=hY hg2);(have HK2:=hY hk2);(have HO2:=hY (OwnAt.keep2 HO.o hk2 HR.o));clear hn9 ho9 hr2 hg2 hk2)
    | (at_builtin;refine wpList_ownK (w0:=w0) rfl (.tmp 8) (.tmp 11) 22 _ _ _ _ [⟨cid9,kind9,af9,y1.frm.length,cf9,ap9,y1.prog.length,cp9,par9,s0,s1,s2,s3,s4,s5,s6,s7⟩] rfl Tryz.underlying22 infoNode rfl (by decide) encNd_len encNd_one rfl (OwnAt.grew HO2.o gw) (HG2.o.trans gw) rfl (nd_at _ _ _ _ rfl (by simp[go_sem])) (by rw[HLC.o];simp;omega) (by decide) (by simp) ?_;intro v5 W5 hA;(have HA:=hY hA);clear hA))
   obtain⟨q1,q2⟩:=nodes_round HR.o HO.o HN2.o hsz HK2.o HR2.o HN9.o HO9.o gw HA.o;obtain⟨q4,q5⟩:=Keep2.app (HK.o.trans (HK2.o.trans (Keep2.ofGrew gw))) HA.o HI.o;have Q1:=hY q1;have Q2:=hY q2;have Q4:=hY q4;have Q5:=hY q5;clear q1 q2 q4 q5
   go_roundg (N-(k+1))
   case measure=>omega
   case rel=>exact⟨k+1,_,_,by omega,by omega,by go_num,rfl,hY HA.o.2.1,hY (by rw[HSC.o];exact Q1.out),hY (by rw[HSC.o];exact Q2.out),hY HA.o.1,Q4,Q5⟩
  ·obtain rfl:k=N:=by omega
   obtain⟨ak,ck,rfl⟩:=(OwnAt.rows HO.o encNd_len).len;go_wp2;go_ret;exact⟨_,lc,rfl,OwnAt.up HO.o HI.o,HN2.o,HR.o,HG.o,HK.o⟩
theorem num13_any(n:Int)(h:Oc.fitsN n=true)(w:World): Calls Tryz.prog 124 #[.int .i64 n] w (Gives (str (Oc.be n)) w):=by
 have HP:=hY fun W=>refPut01_any n h W
 clear h;go_enter Tryz.func124,Tryz.ntmps124
 go_wp2_with (go_at_call 166;refine(HP.o _).mono ?_;rintro e w1 ⟨rfl,R3,n3,rfl⟩)
 go_ret;refine⟨rfl,?_⟩;exact gw
theorem enc_rt{a0 a1 a2 a3 a4:Value}{r0 r1 r2 r3 r4 r5 r6 r7:Int}(g:Nat)(h:g<8): (#[a0,a1,a2,a3,a4,.int .i64 r0,.int .i64 r1,.int .i64 r2,.int .i64 r3,.int .i64 r4,.int .i64 r5,.int .i64 r6,.int .i64 r7]:Array Value)[5+g]? = some (.int .i64 ([r0,r1,r2,r3,r4,r5,r6,r7]:List Int)[g]):=by
 rcases (show g=0∨g=1∨g=2∨g=3∨g=4∨g=5∨g=6∨g=7 by omega) with rfl|rfl|rfl|rfl|rfl|rfl|rfl|rfl<;>rfl
theorem node13_any(c:NdC)(n:Gr.Nd)(lp:Int)(hlp : -2147483648≤lp)(w:World)(hn:NodeIs w c n)(hok:Gr.OkB fitsP lp n): Calls Tryz.prog 126 #[.agg #[.int .i64 c.id,.int .i64 c.kind,.slice c.af c.nf c.cf,.slice c.ap c.np c.cp,.int .i64 c.par,.int .i64 c.r0,.int .i64 c.r1,.int .i64 c.r2,.int .i64 c.r3,.int .i64 c.r4,.int .i64 c.r5,.int .i64 c.r6,.int .i64 c.r7]] w (Gives (str (Gr.putNd putI n)) w):=by
 have HF:=hY hn.f;have HP:=hY hn.p;have HFI:Hid (Co.fitsI n.prog=true):=hY hok.p;have HFF:=hY hok.f;have HOO:=hY hok.o;have hfl:=hok.m;have hq:=putNd_eq [] n;obtain⟨id,kind,af,cf,ap,cp,par,r0,r1,r2,r3,r4,r5,r6,r7,rfl⟩:=hn.lit;have e1:=hn.id;have e2:=hn.kind;have e3:=hn.par;have e4:=hn.route;simp only at e1 e2 e3 e4 HF HP;rw[List.nil_append,List.nil_append,be_three,be_one,e1,e2,e3,e4] at hq;have f1:Oc.fitsN id=true:=by rw[←e1];exact fits_of (by have:=hok.i;omega) (by have:=hok.i;omega)
 have f2:Oc.fitsN kind=true:=by rw[←e2];exact fits_of (by have:=hok.k;omega) (by have:=hok.k;omega)
 have f3:Oc.fitsN (n.frm.length:Int)=true:=fits_of (by omega) (by omega);have f4:Oc.fitsN par=true:=by rw[←e3];exact fits_of (by have:=hok.r;omega) (by have:=hok.r;omega)
 have E4:=hY e4;have HQ:=hY hq;have hpl:=putI_len n.prog hok.p;clear hq e1 e2 e3 e4 hn hok;generalize hpg:n.prog.length=pl at *;obtain⟨fr,hfr⟩:∃fr,fr=n.frm:=⟨_,rfl⟩;have HFR:=hY hfr;rw[←hfr] at HF HFF hfl HQ f3;rw[←hfr];clear hfr hpg;show Calls Tryz.prog 126 #[.agg #[.int .i64 id,.int .i64 kind,.slice af fr.length cf,.slice ap pl cp,.int .i64 par,.int .i64 r0,.int .i64 r1,.int .i64 r2,.int .i64 r3,.int .i64 r4,.int .i64 r5,.int .i64 r6,.int .i64 r7]] w _;have b1:(Oc.be id).length≤4:=Nat.le_of_eq (Oc.be_len _);have b2:(Oc.be kind).length≤4:=Nat.le_of_eq (Oc.be_len _);have b3:(Oc.be (fr.length:Int)).length≤4:=Nat.le_of_eq (Oc.be_len _);have b4:(Oc.be par).length≤4:=Nat.le_of_eq (Oc.be_len _);go_enter Tryz.func126,Tryz.ntmps126
 go_wp2_with fail
 refine wp_region_seq 13 Tryz.mixed (by kernel_rfl) (by kernel_rfl) ?_
 iterate 13
  apply Seq.val
  focus
   rintro w1 u ⟨R1,n1,rfl⟩ hF;simp[moreFacts,Fact.more,Oper.deps,Region.binds,List.filter_cons,World.more_drew] at hF;simp[putFacts,Oper.deps,Region.binds,List.filter_cons,Region.dstOf,Fact.at,Act.put,World.more_drew]
   go_wp2_with (first
    | (go_at_call 124;refine(num13_any _ (by assumption) _).mono ?_;rintro e w1 ⟨rfl,R3,n3,rfl⟩)
    )
   exact⟨gw,rfl,_,_,rfl,rfl,rfl⟩
 rintro u w1 ⟨R1,n1,rfl⟩ hF;clear hF;simp[putFacts,Region.dstOf,Fact.at,Act.put,List.range_succ,World.more_drew];go_wp2;have hT0:(Oc.be id++(Oc.be kind++Oc.be (fr.length:Int))).length≤12:=by simp only[List.length_append,Oc.be_len];omega
 have hbe:(⟨(Oc.be id).toArray⟩++⟨(Oc.be kind).toArray⟩++⟨(Oc.be (fr.length:Int)).toArray⟩:ByteArray)=⟨(Oc.be id++(Oc.be kind++Oc.be (fr.length:Int))).toArray⟩:=by rw[str_cat,str_cat,List.append_assoc]
 rw[hbe];have hlen0:(Oc.be (fr.length:Int))=(Oc.be (fr.length:Int)):=rfl;generalize Oc.be id++(Oc.be kind++Oc.be (fr.length:Int))=T0 at *;clear hbe hlen0
 go_loopg [3,4] fr.length (fun gg s3 s4 wr=>∃g:Nat,g≤fr.length∧fr.length-g≤gg∧s4 = .int .i64 g∧s3=str (T0++Oc.bes (fr.take g))∧Hid (Grew w wr)∧Hid (wr.heap[w.heap.size]? = some (.cells #[.int .i64 id,.int .i64 kind,.slice af fr.length cf,.slice ap pl cp,.int .i64 par,.int .i64 r0,.int .i64 r1,.int .i64 r2,.int .i64 r3,.int .i64 r4,.int .i64 r5,.int .i64 r6,.int .i64 r7] 52)))
 case atStart=>exact⟨0,by omega,by omega,rfl,by simp[Oc.bes],hY gw,hY (grew_heap gw (heap_new_at w _ _ rfl))⟩
 case round =>
  obtain⟨g,hg8,hgg,rfl,rfl,HGR,HBX⟩:=hrel;have d2:=cell_of (o:=2) HBX.o;have d3:=cell_of (o:=3) HBX.o;have d4:=cell_of (o:=4) HBX.o;have px:=Pre.mk (heap_lt HBX.o);simp at d2 d3 d4;have hbl:=Oc.bes_len (fr.take g);rw[List.length_take_of_le hg8] at hbl;have hTl:(T0++Oc.bes (fr.take g)).length≤100:=by rw[List.length_append,hbl];omega
  by_cases hlt:g<fr.length
  ·obtain⟨af',cf',e,-,hx⟩:=ints_open (HF.o.grew HGR.o);cases e;obtain⟨bf,offf,rfl,hpf,cx⟩:=hx g hlt;have hbs:=Oc.bes_succ fr g hlt;have hfx:=HFF.o _ (List.getElem_mem hlt);clear hx;generalize fr[g]=x at *;have fx:Oc.fitsN x=true:=fits_of (by omega) (by omega);have bx:(Oc.be x).length≤4:=Nat.le_of_eq (Oc.be_len _);have hns:T0++Oc.bes (fr.take (g+1))=(T0++Oc.bes (fr.take g))++Oc.be x:=by rw[hbs,List.append_assoc]
   have HNS:=hY hns;clear hns hbs hbl hfx d3 d4;generalize T0++Oc.bes (fr.take g)=T at *
   go_wp2_with (go_at_call 124;refine(num13_any _ fx _).mono ?_;rintro e w2 ⟨rfl,R5,n5,rfl⟩)
   go_roundg (fr.length-(g+1))
   case measure=>omega
   case rel=>exact⟨g+1,by omega,by omega,by go_num,by rw[HNS.o];exact congrArg Value.string (str_cat _ _),hY (HGR.o.trans gw),hY (grew_heap gw HBX.o)⟩
  ·obtain rfl:g=fr.length:=by omega
   rw[List.take_length] at *;generalize hT1:T0++Oc.bes fr=T1 at *;have HT1:=hY hT1;have HPg:=hY (HP.o.grew HGR.o);have hpp:(putI n.prog).length≤200:=hpl;clear hT1 hbl
   go_wp2_with fail
   refine wp_region_seq 9 Tryz.mixed (by kernel_rfl) (by kernel_rfl) ?_
   iterate 9
    apply Seq.val
    focus
     rintro w1 u ⟨R1,n1,rfl⟩ hF;simp[moreFacts,Fact.more,Oper.deps,Region.binds,List.filter_cons,World.more_drew] at hF;simp[putFacts,Oper.deps,Region.binds,List.filter_cons,Region.dstOf,Fact.at,Act.put,World.more_drew]
     go_wp2_with (first
      | (go_at_call 168;refine(refPut04_any _ n.prog _ (HPg.o.grew gw) HFI.o).mono ?_;rintro e w2 ⟨rfl,R5,n5,rfl⟩)
      | (go_at_call 124;refine(num13_any _ f4 _).mono ?_;rintro e w2 ⟨rfl,R5,n5,rfl⟩))
     exact⟨gw,rfl,_,_,rfl,rfl,rfl⟩
   rintro u w1 ⟨R1,n1,rfl⟩ hF;clear hF;simp[putFacts,Region.dstOf,Fact.at,Act.put,List.range_succ,World.more_drew];go_wp2;have hbe2:(⟨T1.toArray⟩++⟨(putI n.prog).toArray⟩++⟨(Oc.be par).toArray⟩:ByteArray)=⟨((T1++putI n.prog)++Oc.be par).toArray⟩:=by rw[str_cat,str_cat]
   rw[hbe2];have hT2l:((T1++putI n.prog)++Oc.be par).length≤400:=by simp only[List.length_append,Oc.be_len];omega
   generalize hT2:(T1++putI n.prog)++Oc.be par=T2 at *;have HT2:=hY hT2;clear hbe2 hT2 d3 d4
   go_loopg [3,5] 8 (fun gg s3 s5 ws=>∃g:Nat,g≤8∧8-g≤gg∧s5 = .int .i64 g∧s3=str (T2++Oc.bes (([r0,r1,r2,r3,r4,r5,r6,r7]:List Int).take g))∧Hid (Grew w ws)∧Hid (ws.heap[w.heap.size]? = some (.cells #[.int .i64 id,.int .i64 kind,.slice af fr.length cf,.slice ap pl cp,.int .i64 par,.int .i64 r0,.int .i64 r1,.int .i64 r2,.int .i64 r3,.int .i64 r4,.int .i64 r5,.int .i64 r6,.int .i64 r7] 52)))
   case atStart=>exact⟨0,by omega,by omega,rfl,by simp[Oc.bes],hY (HGR.o.trans gw),hY (grew_heap gw HBX.o)⟩
   case round =>
    obtain⟨h,hh8,hhg,rfl,rfl,HGS,HBS⟩:=hrel;have px2:=Pre.mk (heap_lt HBS.o);have hbl2:=Oc.bes_len (([r0,r1,r2,r3,r4,r5,r6,r7]:List Int).take h);rw[List.length_take_of_le (show h≤([r0,r1,r2,r3,r4,r5,r6,r7]:List Int).length from hh8)] at hbl2;have hTl2:(T2++Oc.bes (([r0,r1,r2,r3,r4,r5,r6,r7]:List Int).take h)).length≤500:=by rw[List.length_append,hbl2];omega
    by_cases hlt2:h<8
    ·have dg:=cell_of (o:=5+h) HBS.o;rw[enc_rt h hlt2] at dg;have hbs:=Oc.bes_succ ([r0,r1,r2,r3,r4,r5,r6,r7]:List Int) h hlt2;have hfx:=HOO.o _ (by rw[E4.o];exact List.getElem_mem (show h<([r0,r1,r2,r3,r4,r5,r6,r7]:List Int).length from hlt2));have hns:T2++Oc.bes (([r0,r1,r2,r3,r4,r5,r6,r7]:List Int).take (h+1))=(T2++Oc.bes (([r0,r1,r2,r3,r4,r5,r6,r7]:List Int).take h))++Oc.be ([r0,r1,r2,r3,r4,r5,r6,r7]:List Int)[h]:=by rw[hbs,List.append_assoc]
     have HNS:=hY hns;clear hns hbs hbl2;generalize ([r0,r1,r2,r3,r4,r5,r6,r7]:List Int)[h]=x at *;have fx:Oc.fitsN x=true:=fits_of (by omega) (by omega);have bx:(Oc.be x).length≤4:=Nat.le_of_eq (Oc.be_len _);generalize T2++Oc.bes (([r0,r1,r2,r3,r4,r5,r6,r7]:List Int).take h)=T at *;clear hfx
     go_wp2_with (go_at_call 124;refine(num13_any _ fx _).mono ?_;rintro e w2 ⟨rfl,R7,n7,rfl⟩)
     go_roundg (8-(h+1))
     case measure=>omega
     case rel=>exact⟨h+1,by omega,by omega,by go_num,by rw[HNS.o];exact congrArg Value.string (str_cat _ _),hY (HGS.o.trans gw),hY (grew_heap gw HBS.o)⟩
    ·obtain rfl:h=8:=by omega
     clear hbl2;go_wp2;go_ret;exact⟨by rw[←HQ.o];rfl,HGS.o⟩
end Go.Proofs.YtipgfjihdglocaaGreat
