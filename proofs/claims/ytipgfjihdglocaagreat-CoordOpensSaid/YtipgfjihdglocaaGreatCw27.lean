import Derived.Test.YtipgfjihdglocaaGreatCw19
import Derived.Test.YtipgfjihdglocaaGreatCw24
import Derived.Test.YtipgfjihdglocaaGreatCw25
import Derived.Test.YtipgfjihdglocaaGreatCw22
import Derived.Test.YtipgfjihdglocaaGreatCw18
import Derived.Test.YtipgfjihdglocaaGreatCw20
import Derived.Test.YtipgfjihdglocaaGreatCw12
import Derived.Deep.DeepCutAuto
import Derived.Deep.CutBlock
set_option linter.unusedSimpArgs false
set_option linter.unusedVariables false
set_option maxRecDepth 100000
set_option maxHeartbeats 64000000
namespace Go.Proofs.YtipgfjihdglocaaGreat
open Go.RowKit Ga
theorem clean49_any(c:StC)(s:Gr.Stp)(w:World)(hn:StepIs w c s)(hs:s.nd.frm.length≤1000∧s.nd.prog.length≤1000): Calls Tryz.prog 105 #[.agg #[.int .i64 c.kind,.int .i64 c.c.id,.int .i64 c.c.kind,.slice c.c.af c.c.nf c.c.cf,.slice c.c.ap c.c.np c.c.cp,.int .i64 c.c.par,.int .i64 c.c.r0,.int .i64 c.c.r1,.int .i64 c.c.r2,.int .i64 c.c.r3,.int .i64 c.c.r4,.int .i64 c.c.r5,.int .i64 c.c.r6,.int .i64 c.c.r7,.bool c.reset]] w (CleanGives (Gr.cleanS s) w):=by
 obtain⟨kind,⟨id,kd,af,nf,cf,ap,np,cp,par,r0,r1,r2,r3,r4,r5,r6,r7⟩,reset⟩:=c;by_cases h1:kind=1
 ·subst h1;exact clean49_1 _ _ _ _ _ _ _ _ _ _ _ _ _ _ _ _ _ _ s w hn hs
 by_cases h2:kind=2
 ·subst h2;exact clean49_2 _ _ _ _ _ _ _ _ _ _ _ _ _ _ _ _ _ _ s w hn hs
 by_cases h3:kind=3
 ·subst h3;exact clean49_3 _ _ _ _ _ _ _ _ _ _ _ _ _ _ _ _ _ _ s w hn hs
 by_cases h4:kind=4
 ·subst h4;exact clean49_4 _ _ _ _ _ _ _ _ _ _ _ _ _ _ _ _ _ _ s w hn hs
 by_cases h5:kind=5
 ·subst h5;exact clean49_5 _ _ _ _ _ _ _ _ _ _ _ _ _ _ _ _ _ _ s w hn hs
 exact clean49_0 kind h1 h2 h3 h4 h5 _ _ _ _ _ _ _ _ _ _ _ _ _ _ _ _ _ _ s w hn hs
theorem clean_range(s:Gr.Stp): 0≤(Gr.cleanS s).kind∧(Gr.cleanS s).kind≤5:=by
 unfold Gr.cleanS;split
 ·exact⟨by simp,by simp⟩
 split
 ·exact⟨by simp,by simp⟩
 split
 ·exact⟨by simp,by simp⟩
 split
 ·exact⟨by simp,by simp⟩
 split<;>exact⟨by simp,by simp⟩
theorem clean_small{s:Gr.Stp}{a b:Nat}(h:s.nd.frm.length≤a∧s.nd.prog.length≤b): (Gr.cleanS s).nd.frm.length≤a∧(Gr.cleanS s).nd.prog.length≤b:=by
 unfold Gr.cleanS;split
 ·exact⟨Nat.zero_le _,h.2⟩
 split
 ·exact h
 split
 ·exact⟨Nat.zero_le _,Nat.zero_le _⟩
 split
 ·exact⟨Nat.zero_le _,Nat.zero_le _⟩
 split
 ·exact⟨h.1,Nat.zero_le _⟩
 ·exact⟨Nat.zero_le _,Nat.zero_le _⟩
def PutOr(w0 W:World)(B:Nat)(ys:List UInt8)(P:Prop)(zs:List UInt8)(n:Nat)(e:Ending)(W':World): Prop:=e = .returned (.tuple #[])∧Grew w0 W'∧KeptW w0.heap.size B W W'∧∃vb' xs,xs.length≤n∧(P→xs=zs)∧WriterAt w0.heap.size B W' vb' (ys++xs)
theorem putNode_or(w0 W:World)(B:Nat)(vb:Value)(ys:List UInt8)(c:NdC)(n:Gr.Nd)(hw:WriterAt w0.heap.size B W vb ys)(hg:Grew w0 W)(hn:NodeIs W c n)(hsf:Apart w0.heap.size B W c.vf)(hsp:Apart w0.heap.size B W c.vp)(hok:n.frm.length≤100)(hlen:ys.length≤8000):
  Calls Tryz.prog 106 #[.pointer (some ⟨B,0,none⟩),.agg #[.int .i64 c.id,.int .i64 c.kind,.slice c.af c.nf c.cf,.slice c.ap c.np c.cp,.int .i64 c.par,.int .i64 c.r0,.int .i64 c.r1,.int .i64 c.r2,.int .i64 c.r3,.int .i64 c.r4,.int .i64 c.r5,.int .i64 c.r6,.int .i64 c.r7]] W (PutOr w0 W B ys (Gr.OkB fitsP 0 n) (Gr.putNd putI n) 1000):=by
 by_cases h:Gr.OkB fitsP 0 n
 ·refine(putNode_any w0 W B vb ys c n 0 (by decide) hw hg hn hsf hsp h hlen).mono ?_;rintro e W' ⟨rfl,h1,h2,vb',h3⟩;exact⟨rfl,h1,h2,vb',_,by have:=putNd_len h;omega,fun _=>rfl,h3⟩
 ·refine(putNode_some w0 W B vb ys c n hw hg hn hsf hsp hok hlen).mono ?_;rintro e W' ⟨rfl,h1,h2,vb',zs,h3,h4⟩;exact⟨rfl,h1,h2,vb',zs,h3,fun q=>absurd q h,h4⟩
theorem bes_two(a b:Int): Oc.bes [a,b]=Oc.be a++Oc.be b:=by simp[Oc.bes]
theorem take_snocS{β:Type}(f:Gr.Stp→List β)(l:List Gr.Stp)(k:Nat)(h:k<l.length): (l.take (k+1)).flatMap f=(l.take k).flatMap f++f l[k]:=by
 rw[List.take_succ_eq_append_getElem h,List.flatMap_append];simp
def WroteS(p:List Gr.Stp)(k:Nat)(X:List UInt8): Prop:=X.length≤k*1010∧((∀s∈p.take k,Gr.OkB fitsP 0 (Gr.cleanS s).nd)→X=(p.take k).flatMap (Gr.putSt putI))
theorem WroteS.next{p:List Gr.Stp}{k:Nat}{X xs:List UInt8}{kd rs:Int}(h:WroteS p k X)(hk:k<p.length)(h1:(Gr.cleanS p[k]).kind=kd)(h2:(if (Gr.cleanS p[k]).reset then (1:Int) else 0)=rs)(h3:xs.length≤1000)(h4:Gr.OkB fitsP 0 (Gr.cleanS p[k]).nd→xs=Gr.putNd putI (Gr.cleanS p[k]).nd):
  WroteS p (k+1) (X++(Oc.be kd++Oc.be rs)++xs):=by
 refine⟨?_,fun hall=>?_⟩
 ·have:=h.1;simp only[List.length_append,Oc.be_len];omega
 ·have htk:p.take (k+1)=p.take k++[p[k]]:=List.take_succ_eq_append_getElem hk;rw[take_snocS _ _ _ hk,h.2 fun s hs=>hall s (by rw[htk];exact List.mem_append_left _ hs),h4 (hall _ (by rw[htk];exact List.mem_append_right _ (List.mem_singleton.2 rfl)))];unfold Gr.putSt;rw[h1,h2];simp only[List.append_assoc]
def PlanOut(p:List Gr.Stp)(w:World)(e:Ending)(w':World): Prop:=∃t:List UInt8,e = .returned (str t)∧t.length≤10000∧(Gr.OkPl fitsP p→t=Gr.putPl putI p)∧Grew w w'
theorem putPlan_any(v:Value)(p:List Gr.Stp)(w:World)(hv:StepsAt w v p)(hs:∀s∈p,s.nd.frm.length≤100∧s.nd.prog.length≤1000)(h6:p.length≤6): Calls Tryz.prog 43 #[v] w (PlanOut p w):=by
 have HV:=hY hv;have HS:=hY hs;obtain⟨a,cap,rfl,hm,-⟩:=hv.openC;have HW0:Hid (WriterAt w.heap.size w.heap.size (w.alloc (.cells #[.slice none 0 0] 147)) (.slice none 0 0) []):=hY ⟨Nat.le_refl _,heap_new_at _ _ _ rfl,OwnAt.nil _⟩;clear hv hs;go_enter Tryz.func43,Tryz.ntmps43
 go_wp2_with fail
 refine(writerNum_freshK w _ w.heap.size (.slice none 0 0) [] [(p.length:Int)] [.int .i64 p.length] _ _ _ HW0.o gw rfl (by simp[go_sem]) rfl ?_ (by simp)).mono ?_
 ·simp only[List.all_cons,List.all_nil,Bool.and_true];exact fits_of (by omega) (by omega)
 rintro e W1 ⟨rfl,hg1,hk1,vb1,hw1⟩;rw[List.nil_append,be_one] at hw1;have HW1:=hY hw1;have HG1:=hY hg1;clear hw1 hg1 hk1;go_wp2
 go_loopg [13] p.length (fun gg s13 wr=>∃(k:Nat) (vk:Value) (X:List UInt8),k≤p.length∧p.length-k≤gg∧s13 = .int .i64 k∧Hid (WroteS p k X)∧Hid (WriterAt w.heap.size w.heap.size wr vk (Oc.be p.length++X))∧Hid (Grew w wr))
 case atStart=>exact⟨0,vb1,[],Nat.zero_le _,by omega,rfl,hY ⟨Nat.zero_le _,fun _=>rfl⟩,hY (by rw[List.append_nil];exact HW1.o),HG1⟩
 case round =>
  obtain⟨k,vk,X,hk,hgg,rfl,HX,HWK,HGK⟩:=hrel;by_cases hlt:k<p.length
  ·obtain⟨a',cap',e,-,hx⟩:=(HV.o.grew HGK.o).openC;cases e;obtain⟨b,off,c,rfl,hb,hn,c0,c1,c2,c3,c4,c5,c6,c7,c8,c9,c10,c11,c12,c13,c14⟩:=hx k hlt;have hss:=HS.o _ (List.getElem_mem hlt);have HNX:=hY fun kd rs xs=>HX.o.next (kd:=kd) (rs:=rs) (xs:=xs) hlt
   have hXl:=HX.o.1;generalize p[k]=y at *;have HN:=hY hn;have HC:=hY fun W (g:Grew wr W)=>clean49_any c y W (HN.o.grew g) ⟨by omega,by omega⟩
   have hcs:=clean_small hss;obtain⟨kd0,rs0,cid,kind,af,cf,ap,cp,par,r0,r1,r2,r3,r4,r5,r6,r7,rfl⟩:=HN.o.lit;simp only at c0 c1 c2 c3 c4 c5 c6 c7 c8 c9 c10 c11 c12 c13 c14;clear hx hn
   go_wp2_with fail
   refine(HC.o _ gw).mono ?_;rintro e w1 ⟨d,rfl,hd,hod,R1,n1,rfl⟩;have hrange:=clean_range y;generalize Gr.cleanS y=z at *;obtain⟨kd,rs,id,knd,af1,cf1,ap1,cp1,par1,s0,s1,s2,s3,s4,s5,s6,s7,rfl⟩:=hd.lit;have hkd:=hd.kind;have hrs:=hd.reset;simp only at hkd hrs hod;have HOD:=hY hod;have HDN:=hY hd.nd;have HKD:=hY hkd;have HRS:=hY hrs;have hr1:0≤kd:=by rw[←hkd];exact hrange.1
   have hr2:kd≤5:=by rw[←hkd];exact hrange.2
   clear hod hd hkd hrs hrange;obtain⟨ri,hri⟩:∃ri:Int,(if rs=true then (1:Int) else 0)=ri:=⟨_,rfl⟩;have HRI:=hY hri;have hri2:0≤ri∧ri≤1:=by rw[←hri];split<;>exact⟨by decide,by decide⟩
   obtain⟨hri3,hri4⟩:=hri2;have hT:∀b,(wr.alloc (.cells #[.int .i64 kd0,.int .i64 cid,.int .i64 kind,.slice af y.nd.frm.length cf,.slice ap y.nd.prog.length cp,.int .i64 par,.int .i64 r0,.int .i64 r1,.int .i64 r2,.int .i64 r3,.int .i64 r4,.int .i64 r5,.int .i64 r6,.int .i64 r7,.bool rs0] 69)).heap.size≤b→((wr.alloc (.cells #[.int .i64 kd,.int .i64 id,.int .i64 knd,.slice af1 z.nd.frm.length cf1,.slice ap1 z.nd.prog.length cp1,.int .i64 par1,.int .i64 s0,.int .i64 s1,.int .i64 s2,.int .i64 s3,.int .i64 s4,.int .i64 s5,.int .i64 s6,.int .i64 s7,.bool rs] 69)).more R1 n1).heap[b]? = ((wr.alloc (.cells #[.int .i64 kd0,.int .i64 cid,.int .i64 kind,.slice af y.nd.frm.length cf,.slice ap y.nd.prog.length cp,.int .i64 par,.int .i64 r0,.int .i64 r1,.int .i64 r2,.int .i64 r3,.int .i64 r4,.int .i64 r5,.int .i64 r6,.int .i64 r7,.bool rs0] 69)).more R1 n1).heap[b]? :=fun b hb=>heap_more_same (by simp[World.size_alloc]) _ _ _ hb
   have HOD2:Hid (OwnsNd (wr.heap.size+1) ((wr.alloc (.cells #[.int .i64 kd,.int .i64 id,.int .i64 knd,.slice af1 z.nd.frm.length cf1,.slice ap1 z.nd.prog.length cp1,.int .i64 par1,.int .i64 s0,.int .i64 s1,.int .i64 s2,.int .i64 s3,.int .i64 s4,.int .i64 s5,.int .i64 s6,.int .i64 s7,.bool rs] 69)).more R1 n1) ⟨id,knd,af1,z.nd.frm.length,cf1,ap1,z.nd.prog.length,cp1,par1,s0,s1,s2,s3,s4,s5,s6,s7⟩ z.nd):=hY (by
    have h:=OwnsNd.to HOD.o (fun b hb _=>hT b hb);rw[World.size_alloc] at h
    exact h)
   have HDN2:=hY (HOD2.o.is HDN.o);have HBX:=hY (grew_heap ((Grew.refl _).more R1 n1) (heap_new_at wr (.cells #[.int .i64 kd,.int .i64 id,.int .i64 knd,.slice af1 z.nd.frm.length cf1,.slice ap1 z.nd.prog.length cp1,.int .i64 par1,.int .i64 s0,.int .i64 s1,.int .i64 s2,.int .i64 s3,.int .i64 s4,.int .i64 s5,.int .i64 s6,.int .i64 s7,.bool rs] 69) _ rfl));clear hT;have hBlt:=heap_lt HWK.o.2.1;have hneB:wr.heap.size≠w.heap.size:=by omega
   cases rs
   ·have hri0:(0:Int)=ri:=by simpa using HRI.o
    subst hri0
    go_wp2_with fail
    refine(writerNum_freshK w ((wr.alloc (.cells #[.int .i64 kd,.int .i64 id,.int .i64 knd,.slice af1 z.nd.frm.length cf1,.slice ap1 z.nd.prog.length cp1,.int .i64 par1,.int .i64 s0,.int .i64 s1,.int .i64 s2,.int .i64 s3,.int .i64 s4,.int .i64 s5,.int .i64 s6,.int .i64 s7,.bool false] 69)).more R1 n1) w.heap.size vk _ [kd,0] [.int .i64 kd,.int .i64 0] _ _ _ (HWK.o.grew gw) (HGK.o.trans gw) rfl ?_ rfl ?_ (by simp only[List.length_append,List.length_cons,List.length_nil,Oc.be_len];omega)).mono ?_
    ·simp[go_sem]
    ·simp only[List.all_cons,List.all_nil,Bool.and_true,Bool.and_eq_true];exact⟨fits_of (by omega) (by omega),fits_of (by omega) (by omega)⟩
    rintro e W2 ⟨rfl,hg2,hk2,vb2,hw2⟩;rw[bes_two] at hw2;have HW2:=hY hw2;have HG2:=hY hg2;have HOD3:=hY (OwnsNd.kept HOD2.o hk2 (by omega));have HDN3:=hY (HOD3.o.is HDN2.o);have hbx:=hk2.cells HBX.o hneB (by decide);have HBX3:=hY hbx;clear hbx hw2 hg2 hk2;have x1:=cell_of (o:=1) HBX3.o;have x2:=cell_of (o:=2) HBX3.o;have x3:=cell_of (o:=3) HBX3.o;have x4:=cell_of (o:=4) HBX3.o;have x5:=cell_of (o:=5) HBX3.o;have x6:=cell_of (o:=6) HBX3.o;have x7:=cell_of (o:=7) HBX3.o;have x8:=cell_of (o:=8) HBX3.o;have x9:=cell_of (o:=9) HBX3.o;have x10:=cell_of (o:=10) HBX3.o;have x11:=cell_of (o:=11) HBX3.o;have x12:=cell_of (o:=12) HBX3.o;have x13:=cell_of (o:=13) HBX3.o;simp at x1 x2 x3 x4 x5 x6 x7 x8 x9 x10 x11 x12 x13;have px:=Pre.mk (heap_lt HBX3.o)
    go_wp2_with fail
    refine(putNode_or w W2 w.heap.size vb2 _ ⟨id,knd,af1,z.nd.frm.length,cf1,ap1,z.nd.prog.length,cp1,par1,s0,s1,s2,s3,s4,s5,s6,s7⟩ z.nd HW2.o HG2.o HDN3.o (HOD3.o.apartF (by omega)) (HOD3.o.apartP (by omega)) hcs.1 (by simp only[List.length_append,Oc.be_len];omega)).mono ?_;rintro e W3 ⟨rfl,hg3,hk3,vb3,xs,hx1,hx2,hw3⟩;have HW3:=hY hw3;have HG3:=hY hg3;have HX2:=hY hx2;clear hw3 hg3 hk3 hx2;go_wp2
    go_roundg (p.length-(k+1))
    case measure=>omega
    case rel=>exact⟨k+1,vb3,_,by omega,by omega,by go_num,hY (HNX.o kd 0 xs HKD.o (by rw[HRS.o];exact HRI.o) hx1 HX2.o),hY (by have:=HW3.o;simpa only[List.append_assoc] using this),HG3⟩
   ·have hri0:(1:Int)=ri:=by simpa using HRI.o
    subst hri0
    go_wp2_with fail
    refine(writerNum_freshK w ((wr.alloc (.cells #[.int .i64 kd,.int .i64 id,.int .i64 knd,.slice af1 z.nd.frm.length cf1,.slice ap1 z.nd.prog.length cp1,.int .i64 par1,.int .i64 s0,.int .i64 s1,.int .i64 s2,.int .i64 s3,.int .i64 s4,.int .i64 s5,.int .i64 s6,.int .i64 s7,.bool true] 69)).more R1 n1) w.heap.size vk _ [kd,1] [.int .i64 kd,.int .i64 1] _ _ _ (HWK.o.grew gw) (HGK.o.trans gw) rfl ?_ rfl ?_ (by simp only[List.length_append,List.length_cons,List.length_nil,Oc.be_len];omega)).mono ?_
    ·simp[go_sem]
    ·simp only[List.all_cons,List.all_nil,Bool.and_true,Bool.and_eq_true];exact⟨fits_of (by omega) (by omega),fits_of (by omega) (by omega)⟩
    rintro e W2 ⟨rfl,hg2,hk2,vb2,hw2⟩;rw[bes_two] at hw2;have HW2:=hY hw2;have HG2:=hY hg2;have HOD3:=hY (OwnsNd.kept HOD2.o hk2 (by omega));have HDN3:=hY (HOD3.o.is HDN2.o);have hbx:=hk2.cells HBX.o hneB (by decide);have HBX3:=hY hbx;clear hbx hw2 hg2 hk2;have x1:=cell_of (o:=1) HBX3.o;have x2:=cell_of (o:=2) HBX3.o;have x3:=cell_of (o:=3) HBX3.o;have x4:=cell_of (o:=4) HBX3.o;have x5:=cell_of (o:=5) HBX3.o;have x6:=cell_of (o:=6) HBX3.o;have x7:=cell_of (o:=7) HBX3.o;have x8:=cell_of (o:=8) HBX3.o;have x9:=cell_of (o:=9) HBX3.o;have x10:=cell_of (o:=10) HBX3.o;have x11:=cell_of (o:=11) HBX3.o;have x12:=cell_of (o:=12) HBX3.o;have x13:=cell_of (o:=13) HBX3.o;simp at x1 x2 x3 x4 x5 x6 x7 x8 x9 x10 x11 x12 x13;have px:=Pre.mk (heap_lt HBX3.o)
    go_wp2_with fail
    refine(putNode_or w W2 w.heap.size vb2 _ ⟨id,knd,af1,z.nd.frm.length,cf1,ap1,z.nd.prog.length,cp1,par1,s0,s1,s2,s3,s4,s5,s6,s7⟩ z.nd HW2.o HG2.o HDN3.o (HOD3.o.apartF (by omega)) (HOD3.o.apartP (by omega)) hcs.1 (by simp only[List.length_append,Oc.be_len];omega)).mono ?_;rintro e W3 ⟨rfl,hg3,hk3,vb3,xs,hx1,hx2,hw3⟩;have HW3:=hY hw3;have HG3:=hY hg3;have HX2:=hY hx2;clear hw3 hg3 hk3 hx2;go_wp2
    go_roundg (p.length-(k+1))
    case measure=>omega
    case rel=>exact⟨k+1,vb3,_,by omega,by omega,by go_num,hY (HNX.o kd 1 xs HKD.o (by rw[HRS.o];exact HRI.o) hx1 HX2.o),hY (by have:=HW3.o;simpa only[List.append_assoc] using this),HG3⟩
  ·obtain rfl:k=p.length:=by omega
   have hX:=HX.o
   go_wp2_with (go_at_call 94;refine(octOut_any _ _ _ _ _ HWK.o (by have:=HX.o.1;simp only[List.length_append,Oc.be_len];omega)).mono ?_;rintro e w6 ⟨rfl,R6,n6,rfl⟩)
   go_ret;refine⟨Oc.be p.length++X,rfl,by have:=hX.1;simp only[List.length_append,Oc.be_len];omega,fun h=>?_,HGK.o.trans gw⟩;unfold Gr.putPl;rw[hX.2 fun s hs=>(h.2.2 s (by rw[List.take_length] at hs;exact hs)).2,List.take_length]
theorem Work.made{w0 W:World}{B:Nat}{v:Value}{lc:List NdC}{l:List Gr.Nd}{st:StC}{s:Gr.Stp}{C:Array Value}(hB:B=W.heap.size)(hg:Grew w0 W)(ho:NodesOwn w0.heap.size W v lc)(hn:NodesIn w0.heap.size W lc l)(hs:StepIs W st s)(h2:OwnsNd w0.heap.size W st.c s.nd)(hC:C=(wkC v st 0).toArray): Work w0 (W.alloc (.cells C 172)) B v lc l st s 0:=by
 subst hC;have g:Grew W (W.alloc (.cells (wkC v st 0).toArray 172)):=(Grew.refl _).alloc _;exact⟨heap_new_at _ _ _ hB,ho.grew g,hn.grew g,hs.grew g,h2.grew g,hg.trans g,by rw[hB];exact hg.below.size⟩
theorem NodesIn.low{base base':Nat}{w:World}{lc:List NdC}{l:List Gr.Nd}(h:NodesIn base w lc l)(hb:base'≤base): NodesIn base' w lc l :=
 Rel.mono (fun c n ⟨h1,h2⟩=>⟨h1,OwnAt.low h2.1 hb,OwnAt.low h2.2 hb⟩) h
def smallS(s:Gr.Stp): Prop:=s.nd.frm.length≤1000∧s.nd.prog.length≤1000
def SameE(a b:Int×Nat×List Gr.Nd): Prop:=a.1=b.1∧a.2.1=b.2.1∧a.2.2.Perm b.2.2
theorem SameE.refl(a:Int×Nat×List Gr.Nd): SameE a a:=⟨rfl,rfl,List.Perm.refl _⟩
theorem SameE.trans{a b c:Int×Nat×List Gr.Nd}(h:SameE a b)(k:SameE b c): SameE a c:=⟨h.1.trans k.1,h.2.1.trans k.2.1,h.2.2.trans k.2.2⟩
end Go.Proofs.YtipgfjihdglocaaGreat
