import Derived.Test.YtgebkpgilgppgaaGreatMw18
import Derived.Test.YtgebkpgilgppgaaGreatMw23
import Derived.Test.YtgebkpgilgppgaaGreatMw24
import Derived.Test.YtgebkpgilgppgaaGreatMw25
import Derived.Test.YtgebkpgilgppgaaGreatMw19
import Derived.Test.YtgebkpgilgppgaaGreatMw21
set_option linter.unusedSimpArgs false
set_option linter.unusedVariables false
set_option maxRecDepth 100000
set_option maxHeartbeats 64000000
namespace Go.Proofs.YtgebkpgilgppgaaGreat
open Go.RowKit Ga
theorem D5(c:Bw)(s:Gr.Stp)(w:World)(hn:Ai w c s)(hs:s.nd.frm.length≤1000∧s.nd.prog.length≤1000): Calls Tryz.prog 40 #[.agg #[.int .i64 c.kind,.int .i64 c.c.id,.int .i64 c.c.kind,.slice c.c.af c.c.nf c.c.cf,.slice c.c.ap c.c.np c.c.cp,.int .i64 c.c.par,.int .i64 c.c.r0,.int .i64 c.c.r1,.int .i64 c.c.r2,.int .i64 c.c.r3,.int .i64 c.c.r4,.int .i64 c.c.r5,.int .i64 c.c.r6,.int .i64 c.c.r7,.bool c.reset]] w (Cr (Gr.cleanS s) w):=by
 obtain⟨kind,⟨id,kd,af,nf,cf,ap,np,cp,par,r0,r1,r2,r3,r4,r5,r6,r7⟩,reset⟩:=c;by_cases h1:kind=1
 ·subst h1;exact X5 _ _ _ _ _ _ _ _ _ _ _ _ _ _ _ _ _ _ s w hn hs
 by_cases h2:kind=2
 ·subst h2;exact X6 _ _ _ _ _ _ _ _ _ _ _ _ _ _ _ _ _ _ s w hn hs
 by_cases h3:kind=3
 ·subst h3;exact X3 _ _ _ _ _ _ _ _ _ _ _ _ _ _ _ _ _ _ s w hn hs
 by_cases h4:kind=4
 ·subst h4;exact X4 _ _ _ _ _ _ _ _ _ _ _ _ _ _ _ _ _ _ s w hn hs
 by_cases h5:kind=5
 ·subst h5;exact X7 _ _ _ _ _ _ _ _ _ _ _ _ _ _ _ _ _ _ s w hn hs
 exact X0 kind h1 h2 h3 h4 h5 _ _ _ _ _ _ _ _ _ _ _ _ _ _ _ _ _ _ s w hn hs
theorem SF(s:Gr.Stp): 0≤(Gr.cleanS s).kind∧(Gr.cleanS s).kind≤5:=by
 unfold Gr.cleanS;split
 ·exact⟨by simp,by simp⟩
 split
 ·exact⟨by simp,by simp⟩
 split
 ·exact⟨by simp,by simp⟩
 split
 ·exact⟨by simp,by simp⟩
 split<;>exact⟨by simp,by simp⟩
theorem Ef{s:Gr.Stp}{a b:Nat}(h:s.nd.frm.length≤a∧s.nd.prog.length≤b): (Gr.cleanS s).nd.frm.length≤a∧(Gr.cleanS s).nd.prog.length≤b:=by
 unfold Gr.cleanS;split
 ·exact⟨Nat.zero_le _,h.2⟩
 split
 ·exact h
 split
 ·exact⟨Nat.zero_le _,Nat.zero_le _⟩
 split
 ·exact⟨Nat.zero_le _,Nat.zero_le _⟩
 split
 ·exact⟨h.1,Nat.zero_le _⟩
 ·exact⟨Nat.zero_le _,Nat.zero_le _⟩
def A4Q(w0 W:World)(B:Nat)(ys:List UInt8)(P:Prop)(zs:List UInt8)(n:Nat)(e:Ending)(W':World): Prop:=e = .returned (.tuple #[])∧AA w0 W'∧CJ w0.heap.size B W W'∧∃vb' xs,xs.length≤n∧(P→xs=zs)∧BH w0.heap.size B W' vb' (ys++xs)
theorem Nr(w0 W:World)(B:Nat)(vb:Value)(ys:List UInt8)(c:BM)(n:Gr.Nd)(hw:BH w0.heap.size B W vb ys)(hg:AA w0 W)(hn:A9 W c n)(hsf:Apart w0.heap.size B W c.vf)(hsp:Apart w0.heap.size B W c.vp)(hok:n.frm.length≤100)(hlen:ys.length≤8000):
  Calls Tryz.prog 129 #[.pointer (some ⟨B,0,none⟩),.agg #[.int .i64 c.id,.int .i64 c.kind,.slice c.af c.nf c.cf,.slice c.ap c.np c.cp,.int .i64 c.par,.int .i64 c.r0,.int .i64 c.r1,.int .i64 c.r2,.int .i64 c.r3,.int .i64 c.r4,.int .i64 c.r5,.int .i64 c.r6,.int .i64 c.r7]] W (A4Q w0 W B ys (Gr.OkB BF 0 n) (Gr.putNd BZ n) 1000):=by
 by_cases h:Gr.OkB BF 0 n
 ·refine(Sy w0 W B vb ys c n 0 (by decide) hw hg hn hsf hsp h hlen).mono ?_;rintro e W' ⟨rfl,h1,h2,vb',h3⟩;exact⟨rfl,h1,h2,vb',_,by have:=putNd_len h;omega,fun _=>rfl,h3⟩
 ·refine(RU w0 W B vb ys c n hw hg hn hsf hsp hok hlen).mono ?_;rintro e W' ⟨rfl,h1,h2,vb',zs,h3,h4⟩;exact⟨rfl,h1,h2,vb',zs,h3,fun q=>absurd q h,h4⟩
theorem XP(a b:Int): Oc.bes [a,b]=Oc.be a++Oc.be b:=by simp[Oc.bes]
theorem V5{β:Type}(f:Gr.Stp→List β)(l:List Gr.Stp)(k:Nat)(h:k<l.length): (l.take (k+1)).flatMap f=(l.take k).flatMap f++f l[k]:=by
 rw[List.take_succ_eq_append_getElem h,List.flatMap_append];simp
def RP(p:List Gr.Stp)(k:Nat)(X:List UInt8): Prop:=X.length≤k*1010∧((∀s∈p.take k,Gr.OkB BF 0 (Gr.cleanS s).nd)→X=(p.take k).flatMap (Gr.putSt BZ))
theorem RP.next{p:List Gr.Stp}{k:Nat}{X xs:List UInt8}{kd rs:Int}(h:RP p k X)(hk:k<p.length)(h1:(Gr.cleanS p[k]).kind=kd)(h2:(if (Gr.cleanS p[k]).reset then (1:Int) else 0)=rs)(h3:xs.length≤1000)(h4:Gr.OkB BF 0 (Gr.cleanS p[k]).nd→xs=Gr.putNd BZ (Gr.cleanS p[k]).nd):
  RP p (k+1) (X++(Oc.be kd++Oc.be rs)++xs):=by
 refine⟨?_,fun hall=>?_⟩
 ·have:=h.1;simp only[List.length_append,Oc.be_len];omega
 ·have htk:p.take (k+1)=p.take k++[p[k]]:=List.take_succ_eq_append_getElem hk;rw[V5 _ _ _ hk,h.2 fun s hs=>hall s (by rw[htk];exact List.mem_append_left _ hs),h4 (hall _ (by rw[htk];exact List.mem_append_right _ (List.mem_singleton.2 rfl)))];unfold Gr.putSt;rw[h1,h2];simp only[List.append_assoc]
def A2Z(p:List Gr.Stp)(w:World)(e:Ending)(w':World): Prop:=∃t:List UInt8,e = .returned (str t)∧t.length≤10000∧(Gr.OkPl BF p→t=Gr.putPl BZ p)∧AA w w'
theorem Tu(v:Value)(p:List Gr.Stp)(w:World)(hv:BA w v p)(hs:∀s∈p,s.nd.frm.length≤100∧s.nd.prog.length≤1000)(h6:p.length≤6): Calls Tryz.prog 102 #[v] w (A2Z p w):=by
 have HV:=hY hv;have HS:=hY hs;obtain⟨a,cap,rfl,hm,-⟩:=hv.openC;have HW0:Hid (BH w.heap.size w.heap.size (w.alloc (.cells #[.slice none 0 0] 198)) (.slice none 0 0) []):=hY ⟨Nat.le_refl _,AO _ _ _ rfl,OwnAt.nil _⟩;clear hv hs;go_enter Tryz.func102,Tryz.ntmps102
 go_wp2_with fail
 refine(CB w _ w.heap.size (.slice none 0 0) [] [(p.length:Int)] [.int .i64 p.length] _ _ _ HW0.o gw rfl (by simp[go_sem]) rfl ?_ (by simp)).mono ?_
 ·simp only[List.all_cons,List.all_nil,Bool.and_true];exact BG (by omega) (by omega)
 rintro e W1 ⟨rfl,hg1,hk1,vb1,hw1⟩;rw[List.nil_append,VF] at hw1;have HW1:=hY hw1;have HG1:=hY hg1;clear hw1 hg1 hk1;go_wp2
 go_loopg [13] p.length (fun gg s13 wr=>∃(k:Nat) (vk:Value) (X:List UInt8),k≤p.length∧p.length-k≤gg∧s13 = .int .i64 k∧Hid (RP p k X)∧Hid (BH w.heap.size w.heap.size wr vk (Oc.be p.length++X))∧Hid (AA w wr))
 case atStart=>exact⟨0,vb1,[],Nat.zero_le _,by omega,rfl,hY ⟨Nat.zero_le _,fun _=>rfl⟩,hY (by rw[List.append_nil];exact HW1.o),HG1⟩
 case round =>
  obtain⟨k,vk,X,hk,hgg,rfl,HX,HWK,HGK⟩:=hrel;by_cases hlt:k<p.length
  ·obtain⟨a',cap',e,-,hx⟩:=(HV.o.grew HGK.o).openC;cases e;obtain⟨b,off,c,rfl,hb,hn,c0,c1,c2,c3,c4,c5,c6,c7,c8,c9,c10,c11,c12,c13,c14⟩:=hx k hlt;have hss:=HS.o _ (List.getElem_mem hlt);have HNX:=hY fun kd rs xs=>HX.o.next (kd:=kd) (rs:=rs) (xs:=xs) hlt
   have hXl:=HX.o.1;generalize p[k]=y at *;have HN:=hY hn;have HC:=hY fun W (g:AA wr W)=>D5 c y W (HN.o.grew g) ⟨by omega,by omega⟩
   have hcs:=Ef hss;obtain⟨kd0,rs0,cid,kind,af,cf,ap,cp,par,r0,r1,r2,r3,r4,r5,r6,r7,rfl⟩:=HN.o.lit;simp only at c0 c1 c2 c3 c4 c5 c6 c7 c8 c9 c10 c11 c12 c13 c14;clear hx hn
   go_wp2_with fail
   refine(HC.o _ gw).mono ?_;rintro e w1 ⟨d,rfl,hd,hod,R1,n1,rfl⟩;have hrange:=SF y;generalize Gr.cleanS y=z at *;obtain⟨kd,rs,id,knd,af1,cf1,ap1,cp1,par1,s0,s1,s2,s3,s4,s5,s6,s7,rfl⟩:=hd.lit;have hkd:=hd.kind;have hrs:=hd.reset;simp only at hkd hrs hod;have HOD:=hY hod;have HDN:=hY hd.nd;have HKD:=hY hkd;have HRS:=hY hrs;have hr1:0≤kd:=by rw[←hkd];exact hrange.1
   have hr2:kd≤5:=by rw[←hkd];exact hrange.2
   clear hod hd hkd hrs hrange;obtain⟨ri,hri⟩:∃ri:Int,(if rs=true then (1:Int) else 0)=ri:=⟨_,rfl⟩;have HRI:=hY hri;have hri2:0≤ri∧ri≤1:=by rw[←hri];split<;>exact⟨by decide,by decide⟩
   obtain⟨hri3,hri4⟩:=hri2;have hT:∀b,(wr.alloc (.cells #[.int .i64 kd0,.int .i64 cid,.int .i64 kind,.slice af y.nd.frm.length cf,.slice ap y.nd.prog.length cp,.int .i64 par,.int .i64 r0,.int .i64 r1,.int .i64 r2,.int .i64 r3,.int .i64 r4,.int .i64 r5,.int .i64 r6,.int .i64 r7,.bool rs0] 66)).heap.size≤b→((wr.alloc (.cells #[.int .i64 kd,.int .i64 id,.int .i64 knd,.slice af1 z.nd.frm.length cf1,.slice ap1 z.nd.prog.length cp1,.int .i64 par1,.int .i64 s0,.int .i64 s1,.int .i64 s2,.int .i64 s3,.int .i64 s4,.int .i64 s5,.int .i64 s6,.int .i64 s7,.bool rs] 66)).more R1 n1).heap[b]? = ((wr.alloc (.cells #[.int .i64 kd0,.int .i64 cid,.int .i64 kind,.slice af y.nd.frm.length cf,.slice ap y.nd.prog.length cp,.int .i64 par,.int .i64 r0,.int .i64 r1,.int .i64 r2,.int .i64 r3,.int .i64 r4,.int .i64 r5,.int .i64 r6,.int .i64 r7,.bool rs0] 66)).more R1 n1).heap[b]? :=fun b hb=>Bc (by simp[World.size_alloc]) _ _ _ hb
   have HOD2:Hid (Ab (wr.heap.size+1) ((wr.alloc (.cells #[.int .i64 kd,.int .i64 id,.int .i64 knd,.slice af1 z.nd.frm.length cf1,.slice ap1 z.nd.prog.length cp1,.int .i64 par1,.int .i64 s0,.int .i64 s1,.int .i64 s2,.int .i64 s3,.int .i64 s4,.int .i64 s5,.int .i64 s6,.int .i64 s7,.bool rs] 66)).more R1 n1) ⟨id,knd,af1,z.nd.frm.length,cf1,ap1,z.nd.prog.length,cp1,par1,s0,s1,s2,s3,s4,s5,s6,s7⟩ z.nd):=hY (by
    have h:=Ab.to HOD.o (fun b hb _=>hT b hb);rw[World.size_alloc] at h
    exact h)
   have HDN2:=hY (HOD2.o.is HDN.o);have HBX:=hY (AC ((AA.refl _).more R1 n1) (AO wr (.cells #[.int .i64 kd,.int .i64 id,.int .i64 knd,.slice af1 z.nd.frm.length cf1,.slice ap1 z.nd.prog.length cp1,.int .i64 par1,.int .i64 s0,.int .i64 s1,.int .i64 s2,.int .i64 s3,.int .i64 s4,.int .i64 s5,.int .i64 s6,.int .i64 s7,.bool rs] 66) _ rfl));clear hT;have hBlt:=AB HWK.o.2.1;have hneB:wr.heap.size≠w.heap.size:=by omega
   cases rs
   ·have hri0:(0:Int)=ri:=by simpa using HRI.o
    subst hri0
    go_wp2_with fail
    refine(CB w ((wr.alloc (.cells #[.int .i64 kd,.int .i64 id,.int .i64 knd,.slice af1 z.nd.frm.length cf1,.slice ap1 z.nd.prog.length cp1,.int .i64 par1,.int .i64 s0,.int .i64 s1,.int .i64 s2,.int .i64 s3,.int .i64 s4,.int .i64 s5,.int .i64 s6,.int .i64 s7,.bool false] 66)).more R1 n1) w.heap.size vk _ [kd,0] [.int .i64 kd,.int .i64 0] _ _ _ (HWK.o.grew gw) (HGK.o.trans gw) rfl ?_ rfl ?_ (by simp only[List.length_append,List.length_cons,List.length_nil,Oc.be_len];omega)).mono ?_
    ·simp[go_sem]
    ·simp only[List.all_cons,List.all_nil,Bool.and_true,Bool.and_eq_true];exact⟨BG (by omega) (by omega),BG (by omega) (by omega)⟩
    rintro e W2 ⟨rfl,hg2,hk2,vb2,hw2⟩;rw[XP] at hw2;have HW2:=hY hw2;have HG2:=hY hg2;have HOD3:=hY (Ab.kept HOD2.o hk2 (by omega));have HDN3:=hY (HOD3.o.is HDN2.o);have hbx:=hk2.cells HBX.o hneB (by decide);have HBX3:=hY hbx;clear hbx hw2 hg2 hk2;have x1:=cell_of (o:=1) HBX3.o;have x2:=cell_of (o:=2) HBX3.o;have x3:=cell_of (o:=3) HBX3.o;have x4:=cell_of (o:=4) HBX3.o;have x5:=cell_of (o:=5) HBX3.o;have x6:=cell_of (o:=6) HBX3.o;have x7:=cell_of (o:=7) HBX3.o;have x8:=cell_of (o:=8) HBX3.o;have x9:=cell_of (o:=9) HBX3.o;have x10:=cell_of (o:=10) HBX3.o;have x11:=cell_of (o:=11) HBX3.o;have x12:=cell_of (o:=12) HBX3.o;have x13:=cell_of (o:=13) HBX3.o;simp at x1 x2 x3 x4 x5 x6 x7 x8 x9 x10 x11 x12 x13;have px:=Ad.mk (AB HBX3.o)
    go_wp2_with fail
    refine(Nr w W2 w.heap.size vb2 _ ⟨id,knd,af1,z.nd.frm.length,cf1,ap1,z.nd.prog.length,cp1,par1,s0,s1,s2,s3,s4,s5,s6,s7⟩ z.nd HW2.o HG2.o HDN3.o (HOD3.o.apartF (by omega)) (HOD3.o.apartP (by omega)) hcs.1 (by simp only[List.length_append,Oc.be_len];omega)).mono ?_;rintro e W3 ⟨rfl,hg3,hk3,vb3,xs,hx1,hx2,hw3⟩;have HW3:=hY hw3;have HG3:=hY hg3;have HX2:=hY hx2;clear hw3 hg3 hk3 hx2;go_wp2
    go_roundg (p.length-(k+1))
    case measure=>omega
    case rel=>exact⟨k+1,vb3,_,by omega,by omega,by go_num,hY (HNX.o kd 0 xs HKD.o (by rw[HRS.o];exact HRI.o) hx1 HX2.o),hY (by have:=HW3.o;simpa only[List.append_assoc] using this),HG3⟩
   ·have hri0:(1:Int)=ri:=by simpa using HRI.o
    subst hri0
    go_wp2_with fail
    refine(CB w ((wr.alloc (.cells #[.int .i64 kd,.int .i64 id,.int .i64 knd,.slice af1 z.nd.frm.length cf1,.slice ap1 z.nd.prog.length cp1,.int .i64 par1,.int .i64 s0,.int .i64 s1,.int .i64 s2,.int .i64 s3,.int .i64 s4,.int .i64 s5,.int .i64 s6,.int .i64 s7,.bool true] 66)).more R1 n1) w.heap.size vk _ [kd,1] [.int .i64 kd,.int .i64 1] _ _ _ (HWK.o.grew gw) (HGK.o.trans gw) rfl ?_ rfl ?_ (by simp only[List.length_append,List.length_cons,List.length_nil,Oc.be_len];omega)).mono ?_
    ·simp[go_sem]
    ·simp only[List.all_cons,List.all_nil,Bool.and_true,Bool.and_eq_true];exact⟨BG (by omega) (by omega),BG (by omega) (by omega)⟩
    rintro e W2 ⟨rfl,hg2,hk2,vb2,hw2⟩;rw[XP] at hw2;have HW2:=hY hw2;have HG2:=hY hg2;have HOD3:=hY (Ab.kept HOD2.o hk2 (by omega));have HDN3:=hY (HOD3.o.is HDN2.o);have hbx:=hk2.cells HBX.o hneB (by decide);have HBX3:=hY hbx;clear hbx hw2 hg2 hk2;have x1:=cell_of (o:=1) HBX3.o;have x2:=cell_of (o:=2) HBX3.o;have x3:=cell_of (o:=3) HBX3.o;have x4:=cell_of (o:=4) HBX3.o;have x5:=cell_of (o:=5) HBX3.o;have x6:=cell_of (o:=6) HBX3.o;have x7:=cell_of (o:=7) HBX3.o;have x8:=cell_of (o:=8) HBX3.o;have x9:=cell_of (o:=9) HBX3.o;have x10:=cell_of (o:=10) HBX3.o;have x11:=cell_of (o:=11) HBX3.o;have x12:=cell_of (o:=12) HBX3.o;have x13:=cell_of (o:=13) HBX3.o;simp at x1 x2 x3 x4 x5 x6 x7 x8 x9 x10 x11 x12 x13;have px:=Ad.mk (AB HBX3.o)
    go_wp2_with fail
    refine(Nr w W2 w.heap.size vb2 _ ⟨id,knd,af1,z.nd.frm.length,cf1,ap1,z.nd.prog.length,cp1,par1,s0,s1,s2,s3,s4,s5,s6,s7⟩ z.nd HW2.o HG2.o HDN3.o (HOD3.o.apartF (by omega)) (HOD3.o.apartP (by omega)) hcs.1 (by simp only[List.length_append,Oc.be_len];omega)).mono ?_;rintro e W3 ⟨rfl,hg3,hk3,vb3,xs,hx1,hx2,hw3⟩;have HW3:=hY hw3;have HG3:=hY hg3;have HX2:=hY hx2;clear hw3 hg3 hk3 hx2;go_wp2
    go_roundg (p.length-(k+1))
    case measure=>omega
    case rel=>exact⟨k+1,vb3,_,by omega,by omega,by go_num,hY (HNX.o kd 1 xs HKD.o (by rw[HRS.o];exact HRI.o) hx1 HX2.o),hY (by have:=HW3.o;simpa only[List.append_assoc] using this),HG3⟩
  ·obtain rfl:k=p.length:=by omega
   have hX:=HX.o
   go_wp2_with (go_at_call 130;refine(Vk _ _ _ _ _ HWK.o (by have:=HX.o.1;simp only[List.length_append,Oc.be_len];omega)).mono ?_;rintro e w6 ⟨rfl,R6,n6,rfl⟩)
   go_ret;refine⟨Oc.be p.length++X,rfl,by have:=hX.1;simp only[List.length_append,Oc.be_len];omega,fun h=>?_,HGK.o.trans gw⟩;unfold Gr.putPl;rw[hX.2 fun s hs=>(h.2.2 s (by rw[List.take_length] at hs;exact hs)).2,List.take_length]
def ES:List Gr.Nd:=[⟨0,0,[],[],1,List.replicate 8 0⟩,⟨1,2,[0],[],1,List.replicate 8 0⟩]
def VE(w:World)(e:Ending)(w':World): Prop:=∃v,e = .returned v∧AV w' v ES∧AA w w'
theorem YN(w:World): Calls Tryz.prog 20 #[.int .i64 1] w (VE w):=by
 go_enter Tryz.func20,Tryz.ntmps20;go_wp2;have hm1:max (1:Int) 1=1:=rfl;have hm2:min (1:Int) 3=1:=rfl;simp only[hm1,hm2]
 go_loopg [11] 8 (fun gg s11 wr=>∃g:Nat,g≤8∧8-g≤gg∧s11 = .int .i64 g∧wr.heap[w.heap.size]? = some (.cells (Du 0 0 (.slice none 0 0) (.slice none 0 0) 1 (List.replicate 8 0)) 64)∧Hid (AA w wr))
 case atStart =>
  refine⟨0,by omega,by omega,rfl,?_,hY ?_⟩
  ·have hna:Du 0 0 (.slice none 0 0) (.slice none 0 0) 1 (List.replicate 8 0)=#[.int .i64 0,.int .i64 0,.slice none 0 0,.slice none 0 0,.int .i64 1,.int .i64 0,.int .i64 0,.int .i64 0,.int .i64 0,.int .i64 0,.int .i64 0,.int .i64 0,.int .i64 0]:=by
    simp[Du,List.replicate_succ]
   rw[hna];exact AO w _ _ rfl
  ·repeat (first|exact(AA.refl _).alloc _|refine AA.set ?_ (Nat.le_refl _) _)
 case round =>
  obtain⟨g,hg8,hgg,rfl,hbx,HGR⟩:=hrel;have hp:=Ad.mk (AB hbx);have HBX:=hY hbx;by_cases hlt:g<8
  ·have hset:(List.replicate 8 (0:Int)).set g 0=List.replicate 8 0:=by
    have:g=0∨g=1∨g=2∨g=3∨g=4∨g=5∨g=6∨g=7:=by omega
    rcases this with rfl|rfl|rfl|rfl|rfl|rfl|rfl|rfl<;>rfl
   have hc5:=cell_of (o:=5+g) hbx;rw[MI _ _ _ _ _ _ g (by simp;omega)] at hc5;have hf5:=AJ (o:=5+g) hbx;have HSET:=hY hset;have hne:(1:Int)≠0:=by decide
   have htm:Int.tmod (g:Int) 1=0:=Int.tmod_one _;clear hset hbx;go_wp2
   go_roundg (8-(g+1))
   case measure=>omega
   case rel =>
    refine⟨g+1,by omega,by omega,by go_num,?_,hY (HGR.o.set (Nat.le_refl _) _)⟩;rw[show(List.replicate 8 (0:Int))=(List.replicate 8 (0:Int)).set g 0 from HSET.o.symm,←MH];exact set_self HBX.o
  ·obtain rfl:g=8:=by omega
   have a0:=cell_of (o:=0) hbx;have a1:=cell_of (o:=1) hbx;have a2:=cell_of (o:=2) hbx;have a3:=cell_of (o:=3) hbx;have a4:=cell_of (o:=4) hbx;have a5:=cell_of (o:=5) hbx;have a6:=cell_of (o:=6) hbx;have a7:=cell_of (o:=7) hbx;have a8:=cell_of (o:=8) hbx;have a9:=cell_of (o:=9) hbx;have a10:=cell_of (o:=10) hbx;have a11:=cell_of (o:=11) hbx;have a12:=cell_of (o:=12) hbx;simp[Du,List.replicate_succ] at a0 a1 a2 a3 a4 a5 a6 a7 a8 a9 a10 a11 a12;clear hbx;go_wp2;go_ret;refine⟨_,rfl,⟨[⟨0,0,none,0,0,none,0,0,1,0,0,0,0,0,0,0,0⟩,⟨1,2,some ⟨wr.heap.size+1,0,none⟩,1,1,none,0,0,1,0,0,0,0,0,0,0,0⟩],?_,rfl,?_⟩,HGR.o.trans gw⟩
   ·exact AX.fresh rfl (by simp[maxLen]) AZ (by simp[World.size_alloc]) rfl
   ·have hi:BO (((wr.alloc (.cells #[.int .i64 1,.int .i64 2,.slice (some ⟨wr.heap.size+1,0,none⟩) 1 1,.slice none 0 0,.int .i64 1,.int .i64 0,.int .i64 0,.int .i64 0,.int .i64 0,.int .i64 0,.int .i64 0,.int .i64 0,.int .i64 0] 64))).alloc (.cells #[.int .i64 0] 3)) (.slice (some ⟨wr.heap.size+1,0,none⟩) 1 1) [0]:=AX.fresh rfl (by decide) (fun _=>rfl) (by simp[World.size_alloc]) rfl;intro i c n h1 h2
    match i with
    |0 =>
     cases h1;cases h2
     exact⟨rfl,rfl,AX.nil,AX.nil,rfl,rfl,Nat.zero_le _⟩
    |1 =>
     cases h1;cases h2
     exact⟨rfl,rfl,hi.grew ((AA.refl _).alloc _),AX.nil,rfl,rfl,Nat.le_refl _⟩
    | i+2=>cases h1
theorem Rv:Gr.RightR ES:=by
 refine⟨by decide,?_,by decide,?_⟩
 ·intro i n h
  match i with
  |0 =>
   cases h;refine⟨by decide,by decide,rfl,by decide,by decide,by decide,by decide,by decide,by decide,by decide,by decide,by decide,by decide,by decide,by decide,?_⟩;intro k f hk
   cases hk
  |1 =>
   cases h;refine⟨by decide,by decide,rfl,by decide,by decide,by decide,by decide,by decide,by decide,by decide,by decide,by decide,by decide,by decide,by decide,?_⟩;intro k f hk
   match k with
   |0 =>
    cases hk
    exact⟨⟨0,_,rfl,rfl,by decide⟩,by simp⟩
   | k+1=>cases hk
  | i+2=>cases h
 ·intro n hn;simp only[ES,List.mem_cons,List.not_mem_nil,or_false] at hn;rcases hn with rfl|rfl<;>rfl
theorem Ul:Gr.normG ES=ES:=rfl
theorem Rw:Small ES:=by unfold Small;decide
theorem Lx:(Af ES).length=2:=by decide
def LD:CV:=⟨1,0,1,none,0,0,none,0,0,0⟩
theorem PS:OH ES 1 [] LD=0:=by
 have h:Gr.nodeOf ES LD.node=some ⟨1,2,[0],[],1,List.replicate 8 0⟩:=rfl;unfold OH;rw[h];have hm:EM ([]:List (Ca×CV)) (LD.node,LD.ix)=none:=Sa fun x hx=>by cases hx
 simp only;rw[hm];simp[LD]
theorem Fs(w:World): Calls Tryz.prog 4 #[] w (Ac (.bool true) w):=by
 go_enter Tryz.func4,Tryz.ntmps4
 go_wp2_with (first
  | (go_at_call 20;refine(YN _).mono ?_;rintro e w1 ⟨v1,rfl,hv1,R1,n1,rfl⟩;obtain⟨a1,c1,rfl,-,-⟩:=hv1.openC;(have HV1:=hY hv1);clear hv1)
  | (go_at_call 7;refine(XX _ ES 1 _ HV1.o Rw).mono ?_;rintro e w1 ⟨-,-,h3⟩;obtain⟨x,b,rfl,hG,hx,hb,R2,n2,rfl⟩:=h3 Rv (by decide);rw[Ul] at hG;(have HGA:=hY hG);(have hbw:w.heap.size≤b:=by simp[World.more_size] at hb;omega);clear h3 hG hx hb)
  | fail)
 refine(F8 x b 0 ES 1 [] _ HGA.o (by decide)).mono ?_;rintro e w1 ⟨rfl,R3,n3,rfl⟩;rw[Lx]
 go_wp2_with fail
 refine(UK w _ x b 0 ES 1 [] LD (HGA.o.grew gw) gw hbw (by decide) (by unfold Kz;decide)).mono ?_;rintro e w4 ⟨rfl,-,h4⟩;obtain⟨h5,h6,-⟩:=h4 PS;rw[PS];have H5:=hY h5;have H6:=hY h6;clear h4 h5 h6
 go_wp2_with fail
 refine(F8 x b 1 ES 1 _ _ H5.o (by decide)).mono ?_;rintro e w1 ⟨rfl,R5,n5,rfl⟩;rw[Lx]
 go_wp2_with fail
 go_ret;exact⟨rfl,H6.o.trans gw⟩
end Go.Proofs.YtgebkpgilgppgaaGreat
