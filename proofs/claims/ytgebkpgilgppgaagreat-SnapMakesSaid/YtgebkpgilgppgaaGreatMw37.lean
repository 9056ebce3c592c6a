import Derived.Test.YtgebkpgilgppgaaGreatMw34
import Derived.Test.YtgebkpgilgppgaaGreatMw32
import Derived.Test.YtgebkpgilgppgaaGreatMw23
import Derived.Deep.DeepCutAuto
import Derived.Deep.CutBlock
import Derived.Deep.RegionHeld3
set_option linter.unusedSimpArgs false
set_option linter.unusedVariables false
set_option maxRecDepth 100000
set_option maxHeartbeats 64000000
namespace Go.Proofs.YtgebkpgilgppgaaGreat
open Go.RowKit Ga
theorem Y5(u:World)(v:Value)(l:List Gr.Nd)(c:Bw)(s:Gr.Stp)(w:World)(hu9:AA u w)(hv9:BC u w v l)(hcp:capOk v)(hst9:Ai u c s)(hc:AP l=0)(hk:s.kind=5)(i:Nat)(hf:Gr.find l s.nd.id=some i): Calls Tryz.prog 87 #[v,.agg #[.int .i64 c.kind,.int .i64 c.c.id,.int .i64 c.c.kind,.slice c.c.af c.c.nf c.c.cf,.slice c.c.ap c.c.np c.c.cp,.int .i64 c.c.par,.int .i64 c.c.r0,.int .i64 c.c.r1,.int .i64 c.c.r2,.int .i64 c.c.r3,.int .i64 c.c.r4,.int .i64 c.c.r5,.int .i64 c.c.r6,.int .i64 c.c.r7,.bool c.reset]] w (C9 u (Gr.stepE AP l s) w):=by
 have hv:=hv9.at hu9;have hst:=hst9.grew hu9;obtain⟨hi,hid⟩:=Fy hf;have hfi:Bh l s.nd.id=(i:Int):=by unfold Bh;rw[hf]
 have hno:Gr.nodeOf l s.nd.id=some l[i]:=by unfold Gr.nodeOf;rw[hf,Option.bind_some,List.getElem?_eq_getElem hi]
 have hu:=Ld.un hc;have hl8:=(Bj hc).len;have HCK:=hY fun W2 (g:AA w W2)=>A8 v l W2 (hv.grew g)
 have HFI:=hY fun W2 (g:AA w W2)=>BB v l s.nd.id W2 (hv.grew g)
 skip
 have HKD:=hY fun W2 (g:AA w W2)=>FB v l s.nd.id W2 (hv.grew g)
 have HSF:=hY fun W2 (g:AA w W2)=>DJ _ s.nd.prog W2 (hst.nd.p.grew g)
 rw[hc] at HCK;rw[hfi] at HFI;obtain⟨lc,hr,hrel⟩:=hv9;have hlen:=BL.len hrel;have HREL:=hY hrel;have HR:=hY hr;obtain⟨a,cap,rfl,hm,hx⟩:=hv.openC;obtain⟨b,off,cx,rfl,hb,hn,x0,x1,-⟩:=hx i hi;have hnk:=hn.kind;have HCP:Hid (l.length≤cap):=hY (hcp _ _ _ rfl);clear hx hr hrel hn hv x0 hcp;have HST:=hY hst9;have HU9:=hY hu9;clear hst9 hu9;have hsk:=hst.kind;have hsi:=hst.nd.id;have hkd:c.kind=5:=by rw[←hsk];exact hk
 obtain⟨kd,⟨id,kind,af,nf,cf,ap,np,cp,par,r0,r1,r2,r3,r4,r5,r6,r7⟩,rs⟩:=c;simp only at hsk hsi hkd HSF;subst hkd;rw[hsi] at HFI HKD;have HLC:Hid (lc.length≤8∧0<lc.length∧i<lc.length∧lc.length=l.length):=hY ⟨by omega,by omega,by omega,hlen⟩;have HNL:Hid ((Value.slice (some ⟨b,off,none⟩) l.length cap) = .slice (some ⟨b,off,none⟩) lc.length cap):=hY (by rw[hlen]);have hi2:(i:Int)<(l.length:Int):=by omega
 have hi3:(i:Int)<(lc.length:Int):=by omega
 have hi0:¬((i:Int)<0):=by omega
 have hi1:0≤(i:Int):=by omega
 have HC:=hY hc;have HI:=hY hi;have HSK:=hY hsk;have HU:=hY hu;have HID:=hY hid;have HNO:=hY hno;have hset:l.set i { l[i] with frm:=s.nd.frm }=Gr.updN l s.nd.id fun m=>{ m with frm:=s.nd.frm }:=Gr.updN_set HU.o HI.o HID.o fun m=>{ m with frm:=s.nd.frm }
 have he:Gr.stepE AP l s=if l[i].kind≠2 then (11,[]) else Gr.finE AP (l.set i { l[i] with frm:=s.nd.frm }):=by
  unfold Gr.stepE;rw[if_neg (by rw[hc];decide),if_neg (by omega),hno];simp only;rw[if_neg (by omega),if_neg (by omega),if_neg (by omega),if_neg (by omega)];rw[hset]
  first|done|rfl|(split<;>rfl)
 clear hset hno hid hu hf hfi hst hc hsi hm hlen;by_cases hbk:l[i].kind≠2
 ·have he2:(Gr.stepE AP l s).1=11:=by rw[he,if_pos hbk]
  have HE:=hY he2;have hbb:(cx.kind != 2)=true:=by rw[bne_iff_ne,←hnk];exact hbk
  clear he he2 hbk hnk hk hsk;go_enter Tryz.func87,Tryz.ntmps87
  go_upto_region 5 with (go_at_call 6;((with_reducible refine Calls.mono (HCK.o _ ?_) ?_));(focus(exact gw));rintro e w1 ⟨rfl,R3,n3,rfl⟩)
  have hbx:((w.alloc (.cells #[.int .i64 5,.int .i64 id,.int .i64 kind,.slice af nf cf,.slice ap np cp,.int .i64 par,.int .i64 r0,.int .i64 r1,.int .i64 r2,.int .i64 r3,.int .i64 r4,.int .i64 r5,.int .i64 r6,.int .i64 r7,.bool rs] 66)).more R3 n3).heap[w.heap.size]? = some (.cells #[.int .i64 5,.int .i64 id,.int .i64 kind,.slice af nf cf,.slice ap np cp,.int .i64 par,.int .i64 r0,.int .i64 r1,.int .i64 r2,.int .i64 r3,.int .i64 r4,.int .i64 r5,.int .i64 r6,.int .i64 r7,.bool rs] 66):=AC gw (AO w _ _ rfl);have hgw:AA w ((w.alloc (.cells #[.int .i64 5,.int .i64 id,.int .i64 kind,.slice af nf cf,.slice ap np cp,.int .i64 par,.int .i64 r0,.int .i64 r1,.int .i64 r2,.int .i64 r3,.int .i64 r4,.int .i64 r5,.int .i64 r6,.int .i64 r7,.bool rs] 66)).more R3 n3):=gw;generalize (w.alloc (.cells #[.int .i64 5,.int .i64 id,.int .i64 kind,.slice af nf cf,.slice ap np cp,.int .i64 par,.int .i64 r0,.int .i64 r1,.int .i64 r2,.int .i64 r3,.int .i64 r4,.int .i64 r5,.int .i64 r6,.int .i64 r7,.bool rs] 66)).more R3 n3=wb at *;have y0:=cell_of (o:=0) hbx;have y1:=cell_of (o:=1) hbx;have y2:=cell_of (o:=2) hbx;have y3:=cell_of (o:=3) hbx;have y4:=cell_of (o:=4) hbx;have y5:=cell_of (o:=5) hbx;have y6:=cell_of (o:=6) hbx;have y7:=cell_of (o:=7) hbx;have y8:=cell_of (o:=8) hbx;have y9:=cell_of (o:=9) hbx;have y10:=cell_of (o:=10) hbx;have y11:=cell_of (o:=11) hbx;have y12:=cell_of (o:=12) hbx;have y13:=cell_of (o:=13) hbx;have y14:=cell_of (o:=14) hbx;simp at y0 y1 y2 y3 y4 y5 y6 y7 y8 y9 y10 y11 y12 y13 y14;have pX:=Ad.mk (AB hbx);have hszb:=AB hbx;have HGW:=hY hgw;have HSZ:=hY hszb;have x1':=Al hgw x1;have pb':=Ad.ofCell x1';clear hbx hgw hszb x1 hb
  go_upto_region 6 with (at_builtin;go_loud (refine Bi (w0:=wb) (enc:=Ae) (l:=([]:List BM)) (v:=.slice (some ⟨_,0,none⟩) 0 0) rfl (.tmp 20) (.tmp 21) 22 _ _ _ lc rfl Tryz.underlying22 CX rfl (by decide) AZ BP rfl (OwnAt.lit _ _ (by simp[go_sem]) (by omega)) gw rfl (HR.o.grew (HGW.o.trans gw)) (.inr ⟨_,_,HNL.o⟩) (by have:=HLC.o;simp only[List.length_nil];omega) (by decide) ?_);intro v6 R6 n6 ho6 _;obtain⟨b6,c6,rfl⟩:=Bu ho6 (by have:=HLC.o;simp only[List.length_append,List.length_nil];omega);simp only[List.length_append,List.length_nil,Nat.zero_add,List.nil_append] at ho6 ⊢;(have HO6:=hY ho6);clear ho6)
  go_wp2_with (go_at_call 16;((with_reducible refine Calls.mono (HFI.o _ ?_) ?_));(focus(exact HGW.o.trans gw));rintro e w1 ⟨rfl,hw1⟩;obtain rfl:=hw1)
  exact bodyPost_ret (v:=.tuple #[.slice none 0 0,.int .i64 11]) (by simp[results,Tryz.results87,go_sem]) rfl (CQ HE.o (by decide) (HGW.o.trans gw))
 have he2:Gr.stepE AP l s=Gr.finE AP (l.set i { l[i] with frm:=s.nd.frm }):=by rw[he,if_neg hbk]
 have HE:=hY he2;have hbb:(cx.kind != 2)=false:=by have h9:cx.kind=2:=(by rw[←hnk];exact Classical.not_not.mp hbk);rw[h9];rfl
 clear he he2 hbk hnk hk hsk;go_enter Tryz.func87,Tryz.ntmps87
 go_upto_region 5 with (go_at_call 6;((with_reducible refine Calls.mono (HCK.o _ ?_) ?_));(focus(exact gw));rintro e w1 ⟨rfl,R3,n3,rfl⟩)
 have hbx:((w.alloc (.cells #[.int .i64 5,.int .i64 id,.int .i64 kind,.slice af nf cf,.slice ap np cp,.int .i64 par,.int .i64 r0,.int .i64 r1,.int .i64 r2,.int .i64 r3,.int .i64 r4,.int .i64 r5,.int .i64 r6,.int .i64 r7,.bool rs] 66)).more R3 n3).heap[w.heap.size]? = some (.cells #[.int .i64 5,.int .i64 id,.int .i64 kind,.slice af nf cf,.slice ap np cp,.int .i64 par,.int .i64 r0,.int .i64 r1,.int .i64 r2,.int .i64 r3,.int .i64 r4,.int .i64 r5,.int .i64 r6,.int .i64 r7,.bool rs] 66):=AC gw (AO w _ _ rfl);have hgw:AA w ((w.alloc (.cells #[.int .i64 5,.int .i64 id,.int .i64 kind,.slice af nf cf,.slice ap np cp,.int .i64 par,.int .i64 r0,.int .i64 r1,.int .i64 r2,.int .i64 r3,.int .i64 r4,.int .i64 r5,.int .i64 r6,.int .i64 r7,.bool rs] 66)).more R3 n3):=gw;generalize (w.alloc (.cells #[.int .i64 5,.int .i64 id,.int .i64 kind,.slice af nf cf,.slice ap np cp,.int .i64 par,.int .i64 r0,.int .i64 r1,.int .i64 r2,.int .i64 r3,.int .i64 r4,.int .i64 r5,.int .i64 r6,.int .i64 r7,.bool rs] 66)).more R3 n3=wb at *;have y0:=cell_of (o:=0) hbx;have y1:=cell_of (o:=1) hbx;have y2:=cell_of (o:=2) hbx;have y3:=cell_of (o:=3) hbx;have y4:=cell_of (o:=4) hbx;have y5:=cell_of (o:=5) hbx;have y6:=cell_of (o:=6) hbx;have y7:=cell_of (o:=7) hbx;have y8:=cell_of (o:=8) hbx;have y9:=cell_of (o:=9) hbx;have y10:=cell_of (o:=10) hbx;have y11:=cell_of (o:=11) hbx;have y12:=cell_of (o:=12) hbx;have y13:=cell_of (o:=13) hbx;have y14:=cell_of (o:=14) hbx;simp at y0 y1 y2 y3 y4 y5 y6 y7 y8 y9 y10 y11 y12 y13 y14;have pX:=Ad.mk (AB hbx);have hszb:=AB hbx;have HGW:=hY hgw;have HSZ:=hY hszb;have x1':=Al hgw x1;have pb':=Ad.ofCell x1';clear hbx hgw hszb x1 hb
 go_upto_region 6 with (at_builtin;go_loud (refine Bi (w0:=wb) (enc:=Ae) (l:=([]:List BM)) (v:=.slice (some ⟨_,0,none⟩) 0 0) rfl (.tmp 20) (.tmp 21) 22 _ _ _ lc rfl Tryz.underlying22 CX rfl (by decide) AZ BP rfl (OwnAt.lit _ _ (by simp[go_sem]) (by omega)) gw rfl (HR.o.grew (HGW.o.trans gw)) (.inr ⟨_,_,HNL.o⟩) (by have:=HLC.o;simp only[List.length_nil];omega) (by decide) ?_);intro v6 R6 n6 ho6 _;obtain⟨b6,c6,rfl⟩:=Bu ho6 (by have:=HLC.o;simp only[List.length_append,List.length_nil];omega);simp only[List.length_append,List.length_nil,Nat.zero_add,List.nil_append] at ho6 ⊢;(have HO6:=hY ho6);clear ho6)
 have hOA:Fj u w (wb.more R6 n6) (.slice (some ⟨b6,0,none⟩) lc.length c6) lc l:=⟨OwnAt.low HO6.o (by have:=HSZ.o;omega),HREL.o,HGW.o.trans gw⟩;obtain⟨co,hco⟩:∃co,lc[i]? = some co:=⟨_,List.getElem?_eq_getElem HLC.o.2.2.1⟩;obtain⟨_,hbb6,_,_,cur,hcur,_,_⟩:=OwnAt.cells HO6.o;have hBX:¬(b6=w.heap.size):=by have:=HSZ.o;omega
 have hBX2:¬(w.heap.size=b6):=by have:=HSZ.o;omega
 have p6:=Ad.mk (AB hcur);have f2:=AJ (o:=i*13+2) hcur;have k2:=Av (j:=2) HO6.o hco (by decide);simp[Ae] at k2;obtain⟨l9,hl9⟩:∃l9,l9=l.set i { l[i] with frm:=s.nd.frm }:=⟨_,rfl⟩;rw[←hl9] at HE
 have hout:BC u ((wb.more R6 n6).setCell ⟨b6,i*13+2,none⟩ (.slice af nf cf)) (.slice (some ⟨b6,0,none⟩) lc.length c6) l9∧AA w ((wb.more R6 n6).setCell ⟨b6,i*13+2,none⟩ (.slice af nf cf))∧capOk (.slice (some ⟨b6,0,none⟩) lc.length c6):=by
  rw[hl9];have h:=Fj.set5 hOA HST.o hco HI.o;exact⟨h.at,h.2.2,OwnAt.capOk h.1⟩
 obtain⟨q,hq⟩:∃q,AP l9=q:=⟨_,rfl⟩;have HQ:=hY hq;have HCK9:=hY fun W2 (g:AA ((wb.more R6 n6).setCell ⟨b6,i*13+2,none⟩ (.slice af nf cf)) W2)=>A8 _ l9 W2 ((hout.1.grew g).at ((HU9.o.trans hout.2.1).trans g))
 rw[hq] at HCK9;have HOUT:=hY hout;clear hcur hbb6 hOA hout hco hl9 hq
 go_upto_region 34 with (first|(go_at_call 16;((with_reducible refine Calls.mono (HFI.o _ ?_) ?_));(focus(exact HGW.o.trans gw));rintro e w1 ⟨rfl,hw1⟩;obtain rfl:=hw1))
 by_cases hq0:q=0
 ·subst hq0
  go_wp2_with (go_at_call 6;((with_reducible refine Calls.mono (HCK9.o _ ?_) ?_));(focus(exact gw));rintro e w1 ⟨rfl,R5,n5,rfl⟩)
  exact bodyPost_ret (v:=.tuple #[.slice (some ⟨b6,0,none⟩) lc.length c6,.int .i64 0]) (by simp[results,Tryz.results87,go_sem]) rfl (Iw HQ.o HE.o HOUT.o.1 HOUT.o.2.2 gw (HOUT.o.2.1.trans gw))
 ·have hb2:(q != 0)=true:=by rw[bne_iff_ne];exact hq0
  have HQ0:=hY hq0;clear hq0
  go_wp2_with (go_at_call 6;((with_reducible refine Calls.mono (HCK9.o _ ?_) ?_));(focus(exact gw));rintro e w1 ⟨rfl,R5,n5,rfl⟩)
  exact bodyPost_ret (v:=.tuple #[.slice none 0 0,.int .i64 q]) (by simp[results,Tryz.results87,go_sem]) rfl (Iu HQ.o HQ0.o HE.o (HOUT.o.2.1.trans gw))
theorem O8(u:World)(v:Value)(l:List Gr.Nd)(c:Bw)(s:Gr.Stp)(w:World)(hu9:AA u w)(hv9:BC u w v l)(hcp:capOk v)(hst9:Ai u c s): Calls Tryz.prog 87 #[v,.agg #[.int .i64 c.kind,.int .i64 c.c.id,.int .i64 c.c.kind,.slice c.c.af c.c.nf c.c.cf,.slice c.c.ap c.c.np c.c.cp,.int .i64 c.c.par,.int .i64 c.c.r0,.int .i64 c.c.r1,.int .i64 c.c.r2,.int .i64 c.c.r3,.int .i64 c.c.r4,.int .i64 c.c.r5,.int .i64 c.c.r6,.int .i64 c.c.r7,.bool c.reset]] w (C9 u (Gr.stepE AP l s) w):=by
 by_cases hc:AP l=0
 ·by_cases hk:1≤s.kind∧s.kind≤5
  ·cases hf:Gr.find l s.nd.id with
   | none=>exact V7 u v l c s w hu9 hv9 hcp hst9 hc hk hf
   |some i =>
    rcases (show s.kind=1∨s.kind=2∨s.kind=3∨s.kind=4∨s.kind=5 by omega) with h|h|h|h|h
    ·exact Y6 u v l c s w hu9 hv9 hcp hst9 hc h i hf
    ·exact Tv u v l c s w hu9 hv9 hcp hst9 hc h i hf
    ·exact Y9 u v l c s w hu9 hv9 hcp hst9 hc h i hf
    ·exact Y7 u v l c s w hu9 hv9 hcp hst9 hc h i hf
    ·exact Y5 u v l c s w hu9 hv9 hcp hst9 hc h i hf
  ·exact Nu u v l c s w hu9 hv9 hcp hst9 (.inr (by omega))
 ·exact Nu u v l c s w hu9 hv9 hcp hst9 (.inl hc)
def EJ(u:World)(r:Int×Nat×List Gr.Nd)(w:World)(e:Ending)(w':World): Prop:=AA w w'∧((r.1≠0∧e = .returned (.tuple #[.slice none 0 0,.int .i64 (r.2.1:Int),.int .i64 r.1]))∨(r.1=0∧∃v,e = .returned (.tuple #[v,.int .i64 0,.int .i64 0])∧BC u w' v r.2.2∧capOk v))
theorem V8{l l9:List Gr.Nd}{p:List Gr.Stp}{k:Nat}(hk:k<p.length)(h0:Gr.stepE AP l p[k]=(0,l9)): Gr.stepsE AP l (p.drop k) k=Gr.stepsE AP l9 (p.drop (k+1)) (k+1):=by
 rw[List.drop_eq_getElem_cons hk,Gr.stepsE,h0,if_neg (by simp)]
theorem A1B{u:World}{l9:List Gr.Nd}{w w':World}{e:Ending}(h:C9 u ((0,l9):Int×List Gr.Nd) w e w'): AA w w'∧∃v,e = .returned (.tuple #[v,.int .i64 0])∧BC u w' v l9∧capOk v:=by
 rcases h with ⟨g,⟨h1,-⟩|⟨-,h2⟩⟩
 ·exact absurd rfl h1
 ·exact⟨g,h2⟩
theorem A2b{u:World}{r:Int×List Gr.Nd}{w w':World}{e:Ending}(hr:r.1≠0)(h:C9 u r w e w'): e = .returned (.tuple #[.slice none 0 0,.int .i64 r.1])∧AA w w':=by
 rcases h with ⟨g,⟨-,h2⟩|⟨h1,-⟩⟩
 ·exact⟨h2,g⟩
 ·exact absurd h1 hr
theorem Nv(u:World)(v vp:Value)(l:List Gr.Nd)(p:List Gr.Stp)(w:World)(hv:AV w v l)(hp:BA w vp p)(hb:AP l≠0∨p.length<1∨6<p.length): Calls Tryz.prog 44 #[v,vp] w (EJ u (Gr.applyE AP l p) w):=by
 have HCK:=hY fun W2 (g:AA w W2)=>A8 v l W2 (hv.grew g)
 obtain⟨a,cap,rfl,hm,-⟩:=hv.openC;obtain⟨a2,cap2,rfl,hm2,-⟩:=hp.openC;clear hv hp;by_cases h0:AP l≠0
 ·have he:Gr.applyE AP l p=(10,0,[]):=if_pos h0;rw[he];obtain⟨r,hr⟩:∃r,AP l=r:=⟨_,rfl⟩;rw[hr] at HCK h0;have hne:(r != 0)=true:=by rw[bne_iff_ne];exact h0
  clear hr h0 hb he;go_enter Tryz.func44,Tryz.ntmps44
  go_wp2_with (go_at_call 6;refine(HCK.o _ gw).mono ?_;rintro e w1 ⟨rfl,R3,n3,rfl⟩)
  refine bodyPost_ret (v:=.tuple #[.slice none 0 0,.int .i64 0,.int .i64 10]) (by simp[results,Tryz.results44,go_sem]) rfl ⟨gw,.inl ⟨by decide,rfl⟩⟩
 ·have h1:=hb.resolve_left h0;have he:Gr.applyE AP l p=(11,0,[]):=by unfold Gr.applyE;rw[if_neg h0,if_pos h1]
  rw[he];have h00:AP l=0:=by simpa using h0
  rw[h00] at HCK;clear h00 h0 hb he;rcases h1 with h1|h1
  ·have h1':(p.length:Int)<1:=by omega
   go_enter Tryz.func44,Tryz.ntmps44
   go_wp2_with (go_at_call 6;refine(HCK.o _ gw).mono ?_;rintro e w1 ⟨rfl,R3,n3,rfl⟩)
   refine bodyPost_ret (v:=.tuple #[.slice none 0 0,.int .i64 0,.int .i64 11]) (by simp[results,Tryz.results44,go_sem]) rfl ⟨gw,.inl ⟨by decide,rfl⟩⟩
  ·have h1':¬((p.length:Int)<1):=by omega
   have h1'':(6:Int)<(p.length:Int):=by omega
   go_enter Tryz.func44,Tryz.ntmps44
   go_wp2_with (go_at_call 6;refine(HCK.o _ gw).mono ?_;rintro e w1 ⟨rfl,R3,n3,rfl⟩)
   refine bodyPost_ret (v:=.tuple #[.slice none 0 0,.int .i64 0,.int .i64 11]) (by simp[results,Tryz.results44,go_sem]) rfl ⟨gw,.inl ⟨by decide,rfl⟩⟩
theorem O9(u:World)(v vp:Value)(l:List Gr.Nd)(p:List Gr.Stp)(w:World)(hu9:AA u w)(hv9:BC u w v l)(hcp:capOk v)(hp9:BA u vp p)(hc:AP l=0)(h1:1≤p.length)(h6:p.length≤6): Calls Tryz.prog 44 #[v,vp] w (EJ u (Gr.applyE AP l p) w):=by
 have he:Gr.applyE AP l p=Gr.stepsE AP l p 0:=by unfold Gr.applyE;rw[if_neg (by rw[hc];simp),if_neg (by omega)]
 rw[he];have hv:=hv9.at hu9;have hp:=hp9.grew hu9;have HU9:=hY hu9;have HP9:=hY hp9;have HV9:=hY hv9;have HCK:=hY fun W2 (g:AA w W2)=>A8 v l W2 (hv.grew g)
 rw[hc] at HCK;have HCP:=hY hcp;obtain⟨a,cap,rfl,hm,-⟩:=hv.openC;obtain⟨a2,cap2,rfl,hm2,-⟩:=hp.openC;clear he hc hv hp hcp hu9 hp9 hv9;have h1':¬((p.length:Int)<1):=by omega
 have h6':¬((6:Int)<(p.length:Int)):=by omega
 go_enter Tryz.func44,Tryz.ntmps44
 go_wp2_with (go_at_call 6;refine(HCK.o _ gw).mono ?_;rintro e w1 ⟨rfl,R3,n3,rfl⟩)
 go_loopg [0,7] p.length (fun gg s0 s7 wr=>∃(k:Nat) (lk:List Gr.Nd),k≤p.length∧p.length-k≤gg∧s7 = .int .i64 k∧Hid (AA w wr)∧Hid (BC u wr s0 lk)∧Hid (capOk s0)∧Hid (Gr.stepsE AP l p 0=Gr.stepsE AP lk (p.drop k) k))
 case atStart=>exact⟨0,l,by omega,by omega,rfl,hY gw,hY (HV9.o.grew gw),HCP,hY rfl⟩
 case round =>
  obtain⟨k,lk,hk,hgg,rfl,HG,HA,HCK9,HE⟩:=hrel;rename World=>wa;by_cases hlt:k<p.length
  ·obtain⟨a',cap',e,-,hx⟩:=HP9.o.openC;cases e;obtain⟨b,off,c,rfl,hb,hn,c0,c1,c2,c3,c4,c5,c6,c7,c8,c9,c10,c11,c12,c13,c14⟩:=hx k hlt;have hgu:=HU9.o.trans HG.o;have HST:=hY fun W2 (g:AA wa W2)=>O8 u _ lk c p[k] W2 (hgu.trans g) (HA.o.grew g) HCK9.o hn
   have c0:=Al hgu c0;have c1:=Al hgu c1;have c2:=Al hgu c2;have c3:=Al hgu c3;have c4:=Al hgu c4;have c5:=Al hgu c5;have c6:=Al hgu c6;have c7:=Al hgu c7;have c8:=Al hgu c8;have c9:=Al hgu c9;have c10:=Al hgu c10;have c11:=Al hgu c11;have c12:=Al hgu c12;have c13:=Al hgu c13;have c14:=Al hgu c14;have hb:=Ad.ofCell c0;have HN0:=hY (QE (l:=lk) hlt);have HGO:=hY fun l2=>V8 (l:=lk) (l9:=l2) hlt
   obtain⟨a9,cap9,rfl,-,-⟩:=(HA.o.at hgu).openC;clear hgu;generalize Gr.stepE AP lk p[k]=r at *;obtain⟨r1,l9⟩:=r;clear hx hn;obtain⟨kd,⟨id,kind,af,nf,cf,ap,np,cp,par,r0,q1,q2,q3,q4,q5,q6,q7⟩,rs⟩:=c;simp only at c0 c1 c2 c3 c4 c5 c6 c7 c8 c9 c10 c11 c12 c13 c14 HST;simp only at HN0 HGO;by_cases hr:r1=0
   ·subst hr;have HST2:=hY fun W2 (g:AA wa W2)=>(HST.o W2 g).mono fun e w' h=>A1B h
    clear HST HN0
    go_wp2_with (go_at_call 87;((with_reducible refine Calls.mono (HST2.o _ ?_) ?_));(focus(exact gw));rintro e5 w5 ⟨hg5,v5,rfl,ho5,hc5⟩;obtain⟨n5,a5,cp5,rfl⟩:∃(n5:Nat) (a5:Option Addr) (cp5:Nat),v5 = .slice a5 n5 cp5:=(by obtain⟨lc5,h5,-⟩:=ho5;obtain⟨a,c,h⟩:=h5.len;exact⟨_,a,c,h⟩);(have HG5:=hY hg5);(have HO5:=hY ho5);(have HC5:=hY hc5);clear hg5 ho5 hc5)
    go_roundg (p.length-(k+1))
    case measure=>omega
    case rel=>exact⟨k+1,l9,by omega,by omega,by go_num,hY (HG.o.trans ((AA.trans gw HG5.o).trans gw)),hY (HO5.o.grew gw),HC5,hY (HE.o.trans (HGO.o _ (by first|trivial|rfl)))⟩
   ·have HST2:=hY fun W2 (g:AA wa W2)=>(HST.o W2 g).mono fun e w' h=>A2b (r:=(r1,l9)) hr h
    have hb2:(r1 != 0)=true:=by rw[bne_iff_ne];exact hr
    have HR:=hY hr;have hwk:IntKind.i64.wrap ((k:Int)+1)=(k:Int)+1:=IntWalk.i64_in _ (by omega);clear HST hr;simp only at HST2
    go_wp2_with (go_at_call 87;((with_reducible refine Calls.mono (HST2.o _ ?_) ?_));(focus(exact gw));rintro e5 w5 ⟨rfl,hg5⟩;(have HG5:=hY hg5);clear hg5)
    have hE:=HE.o;rw[HN0.o HR.o] at hE;exact bodyPost_ret (v:=.tuple #[.slice none 0 0,.int .i64 ((k:Int)+1),.int .i64 r1]) (by simp[results,Tryz.results44,go_sem]) rfl ⟨HG.o.trans ((AA.trans gw HG5.o).trans gw),.inl ⟨by rw[hE];exact HR.o,by rw[hE];rfl⟩⟩
  ·obtain rfl:k=p.length:=by omega
   have hE:=HE.o;rw[List.drop_length,Gr.stepsE] at hE;have HE9:=hY hE;clear hE;obtain⟨a9,cap9,rfl,-,-⟩:=(HA.o.at (HU9.o.trans HG.o)).openC;go_wp2;exact bodyPost_ret (v:=.tuple #[.slice a9 lk.length cap9,.int .i64 0,.int .i64 0]) (by simp[results,Tryz.results44,go_sem]) rfl ⟨HG.o.trans gw,.inr ⟨by rw[HE9.o],_,rfl,by rw[HE9.o];exact HA.o.grew gw,HCK9.o⟩⟩
theorem Nw(u:World)(v vp:Value)(l:List Gr.Nd)(p:List Gr.Stp)(w:World)(hu9:AA u w)(hv9:BC u w v l)(hcp:capOk v)(hp9:BA u vp p): Calls Tryz.prog 44 #[v,vp] w (EJ u (Gr.applyE AP l p) w):=by
 by_cases h:AP l≠0∨p.length<1∨6<p.length
 ·exact Nv u v vp l p w (hv9.at hu9) (hp9.grew hu9) h
 ·have hc:AP l=0:=Classical.byContradiction fun q=>h (.inl q)
  exact O9 u v vp l p w hu9 hv9 hcp hp9 hc (by omega) (by omega)
def Kq(s:Gr.Stp): Prop:=s.kind=1∧s.reset=true∨s.kind=2∨s.kind=3
instance (s:Gr.Stp):Decidable (Kq s):=by unfold Kq;exact inferInstance
def Tw(f:CR)(s:Gr.Stp): CR:=if Kq s then (fun n k=>if n=s.nd.id then zer else f n k) else f
def GY(f:CR)(p:List Gr.Stp): CR:=p.foldl Tw f
theorem V9{f:CR}{p:List Gr.Stp}{k:Nat}(hk:k<p.length): GY f (p.take (k+1))=Tw (GY f (p.take k)) p[k]:=by
 unfold GY;rw[List.take_succ_eq_append_getElem hk,List.foldl_append];rfl
theorem XR:∀(n:Nat) (x:Int),x∈Zj n↔0≤x∧x<n
 |0,x=>by
  constructor
  ·intro h;cases h
  ·rintro⟨h1,h2⟩;simp at h2;omega
 |n+1,x=>by
  rw[Zj,List.mem_append,XR n x,List.mem_singleton];omega
theorem XT{x:Tab.En}(h:CF x)(nd:Int): Jj nd (Zj 8) x=decide (x.node=nd):=by
 unfold Jj;rw[show decide (x.key%8∈Zj 8)=true from decide_eq_true ((XR 8 _).2 (by omega)),Bool.and_true]
theorem Dt.rem{m:List Tab.En}{f:CR}(ho:GI m)(h:Dt m f)(s:Gr.Stp): Dt (PG m s) (Tw f s):=by
 unfold PG Tw;by_cases hw:Kq s
 ·rw[if_pos (by unfold Kq at hw;rcases hw with h|h|h;exact .inl h;exact .inr (.inr h);exact .inr (.inl h)),if_pos hw];intro n k h1 h2 h3 h4;have hf:=h n k h1 h2 h3 h4;simp only;by_cases hn:n=s.nd.id
  ·rw[if_pos hn];refine(Gj fun x hx he=>?_).trans rfl;rw[List.mem_filter] at hx;have ht:=ho.there x hx.1;have h5:=hx.2;rw[XT ht] at h5;have h6:x.node≠s.nd.id:=by simpa using h5
   obtain⟨⟨a1,a2⟩,⟨a3,a4⟩⟩:=ht;unfold Tab.num at he;omega
  ·rw[if_neg hn,←hf];rcases EN m n k with ⟨x,hx,he,hg⟩|⟨hno,hg⟩
   ·rw[hg];refine JE (ho.un.filter _) (List.mem_filter.2 ⟨hx,?_⟩) he;have ht:=ho.there x hx;rw[XT ht]
    have h6:x.node≠s.nd.id:=fun e=>by
     obtain⟨⟨a1,a2⟩,⟨a3,a4⟩⟩:=ht;unfold Tab.num at he;omega
    simpa using h6
   ·rw[hg];exact Gj fun x hx=>hno x (List.mem_filter.1 hx).1
 ·rw[if_neg (fun q=>hw (by unfold Kq;rcases q with h|h|h;exact .inl h;exact .inr (.inr h);exact .inr (.inl h))),if_neg hw];exact h
theorem Dt.rems{m:List Tab.En}{f:CR}(ho:GI m)(h:Dt m f): ∀p:List Gr.Stp,Dt (Gc m p) (GY f p)
 | []=>h
 |s::p=>by
  unfold Gc GY;rw[List.foldl_cons,List.foldl_cons];exact Dt.rems (XV ho s) (h.rem ho s) p
theorem A1C{l:List Gr.Nd}{s:Gr.Stp}(h:(Gr.stepE AP l s).1=0): 0≤s.nd.id∧s.nd.id≤7:=by
 by_cases hc:AP l≠0
 ·unfold Gr.stepE at h;rw[if_pos hc] at h;exact absurd h (by decide)
 ·have h0:AP l=0:=by simpa using hc
  unfold Gr.stepE at h;rw[if_neg hc] at h;by_cases hk:s.kind<1∨5<s.kind
  ·rw[if_pos hk] at h;exact absurd h (by decide)
  rw[if_neg hk] at h
  cases hn:Gr.nodeOf l s.nd.id with
  |some n =>
   have hm:n∈l∧n.id=s.nd.id:=by
    unfold Gr.nodeOf at hn
    cases hf:Gr.find l s.nd.id with
    | none=>rw[hf] at hn;cases hn
    |some i =>
     rw[hf,Option.bind_some] at hn;obtain⟨hi,e⟩:=Fy hf;rw[List.getElem?_eq_getElem hi] at hn;cases hn;exact⟨List.getElem_mem hi,e⟩
   rw[←hm.2]
   exact Ld.seven h0 n hm.1
  |none =>
   rw[hn] at h;simp only at h;by_cases h2:s.kind=2
   ·rw[if_pos h2] at h;by_cases h3:s.nd.kind=0
    ·rw[if_pos h3] at h;exact absurd h (by decide)
    ·rw[if_neg h3] at h;have:=Gr.finE_ok h;rw[this.2] at this;exact Ld.seven this.1 s.nd (by simp)
   ·rw[if_neg h2] at h;exact absurd h (by decide)
theorem QK:∀(p:List Gr.Stp) {l:List Gr.Nd} (i:Nat),(Gr.stepsE AP l p i).1=0→∀s∈p,0≤s.nd.id∧s.nd.id≤7
 | [],l,i,_,s,hs=>by cases hs
 |x::p,l,i,h,s,hs=>by
  unfold Gr.stepsE at h;by_cases he:(Gr.stepE AP l x).1≠0
  ·rw[if_pos he] at h;exact absurd h he
  ·rw[if_neg he] at h;rcases List.mem_cons.1 hs with rfl|hs
   ·exact A1C (by simpa using he)
   ·exact QK p (i+1) h s hs
theorem ZA{l:List Gr.Nd}{p:List Gr.Stp}(h:(Gr.applyE AP l p).1=0): ∀s∈p,0≤s.nd.id∧s.nd.id≤7:=by
 unfold Gr.applyE at h;split at h
 ·exact absurd h (by decide)
 ·split at h
  ·exact absurd h (by decide)
  ·exact QK p 0 h
theorem Ny:∀(p:List Gr.Stp) {l:List Gr.Nd} (i:Nat),AP l=0→(Gr.stepsE AP l p i).1=0→AP (Gr.stepsE AP l p i).2.2=0
 | [],l,i,h,_=>h
 |s::p,l,i,h,h1=>by
  unfold Gr.stepsE at h1 ⊢;by_cases he:(Gr.stepE AP l s).1≠0
  ·rw[if_pos he] at h1;exact absurd h1 he
  ·rw[if_neg he] at h1 ⊢;exact Ny p (i+1) (Gr.stepE_ok (by simpa using he)) h1
theorem QL{l:List Gr.Nd}{p:List Gr.Stp}(h:(Gr.applyE AP l p).1=0): AP (Gr.applyE AP l p).2.2=0:=by
 unfold Gr.applyE at h ⊢;by_cases h1:AP l≠0
 ·rw[if_pos h1] at h;exact absurd h (by decide)
 ·rw[if_neg h1] at h ⊢;split at h
  ·exact absurd h (by decide)
  ·rename_i h2
   rw[if_neg h2];exact Ny p 0 (by simpa using h1) h
def Iy(u:World)(r:Int×Nat×List Gr.Nd)(p:List Gr.Stp)(t:Nat)(f:CR)(w0 w:World)(e:Ending)(w':World): Prop:=AA w0 w'∧A7 t w w'∧((r.1≠0∧e = .returned (.tuple #[.slice none 0 0,.int .i64 r.1]))∨(r.1=0∧∃v,e = .returned (.tuple #[v,.int .i64 0])∧BC u w' v r.2.2∧capOk v∧RTabAt w' t (GY f p)))
theorem ZB{u:World}{k:Nat}{l9:List Gr.Nd}{w w':World}{e:Ending}(h:EJ u ((0,k,l9):Int×Nat×List Gr.Nd) w e w'): AA w w'∧∃v,e = .returned (.tuple #[v,.int .i64 0,.int .i64 0])∧BC u w' v l9∧capOk v:=by
 rcases h with ⟨g,⟨h1,-⟩|⟨-,h2⟩⟩
 ·exact absurd rfl h1
 ·exact⟨g,h2⟩
theorem A1D{u:World}{r:Int×Nat×List Gr.Nd}{w w':World}{e:Ending}(hr:r.1≠0)(h:EJ u r w e w'): e = .returned (.tuple #[.slice none 0 0,.int .i64 (r.2.1:Int),.int .i64 r.1])∧AA w w':=by
 rcases h with ⟨g,⟨-,h2⟩|⟨h1,-⟩⟩
 ·exact⟨h2,g⟩
 ·exact absurd h1 hr
theorem BC.keepT{u w w':World}{v:Value}{l:List Gr.Nd}{t:Nat}{f:CR}(h:BC u w v l)(hT:RTabAt w t f)(hk:A7 t w w'): BC u w' v l:=by
 obtain⟨lc,⟨a,cap,rfl,hm,hx⟩,h2⟩:=h;refine⟨lc,⟨a,cap,rfl,hm,fun hne=>?_⟩,h2⟩;obtain⟨b,off,rfl,hc⟩:=hx hne;refine⟨b,off,rfl,fun i x hi q v hv=>?_⟩;have h0:=hc i x hi q v hv
 have hbt:b≠t:=fun e=>by
  have h3:=hc i x hi 2 _ rfl;obtain⟨C,h4,h5,h6⟩:=hT;rw[e,cell_of h4] at h3;have hlt:off+i*13+2<C.size:=(Array.getElem?_eq_some_iff.1 h3).1;have hq:=h6 ((off+i*13+2) / 256) (((off+i*13+2)%256) / 4) (by omega) (by omega);rcases (show(off+i*13+2)%4=0∨(off+i*13+2)%4=1∨(off+i*13+2)%4=2∨(off+i*13+2)%4=3 by omega) with h7|h7|h7|h7
  ·have:=hq.1;rw[show(off+i*13+2) / 256*256+(off+i*13+2)%256 / 4*4=off+i*13+2 by omega,h3] at this;cases this
  ·have:=hq.2.1;rw[show(off+i*13+2) / 256*256+(off+i*13+2)%256 / 4*4+1=off+i*13+2 by omega,h3] at this;cases this
  ·have:=hq.2.2.1;rw[show(off+i*13+2) / 256*256+(off+i*13+2)%256 / 4*4+2=off+i*13+2 by omega,h3] at this;cases this
  ·have:=hq.2.2.2;rw[show(off+i*13+2) / 256*256+(off+i*13+2)%256 / 4*4+3=off+i*13+2 by omega,h3] at this;cases this
 have hlt:b<w.heap.size:=World.block_lt_of_cell? w _ h0;unfold World.cell? at h0 ⊢;rw[hk.2 b hlt hbt];exact h0
theorem ZC{W:World}{t:Nat}{f:CR}(h:RTabAt W t f)(j:Nat)(hj:j<8): ∃W8,(storeCells ⟨t,j*256,none⟩ Tryz.zeroCells53.toList).run Tryz.prog W.drew = .ok () W8∧RTabAt W8 t (fun n k=>if n=(j:Int) then zer else f n k)∧A7 t W W8∧∀w0,AA w0 W→w0.heap.size≤t→AA w0 W8:=by
 obtain⟨C,h1,h2,h3⟩:=h;have hz:Tryz.zeroCells53.toList=List.replicate 256 (Value.int .i64 0):=by kernel_rfl
 rw[hz];have h1':W.drew.heap[t]? = some (.cells C 55):=h1;have hrun:=run_storeCells_at (P:=Tryz.prog) t (j*256) 55 (List.replicate 256 (Value.int .i64 0)) 0 C W.drew h1' (by rw[List.length_replicate];omega) (fun v hv=>by rw[List.eq_of_mem_replicate hv];rfl);refine⟨_,hrun,?_,?_,?_⟩
 ·refine⟨_,setRow_heap _ _ C _ _ _ h1',?_,fun n k hn hk=>?_⟩
  ·simp[h2];omega
  ·have hget:∀i,i<2048→(C.toList.take (j*256+0)++List.replicate 256 (Value.int .i64 0)++C.toList.drop (j*256+0+(List.replicate 256 (Value.int .i64 0)).length)).toArray[i]? = if j*256≤i∧i<j*256+256 then some (.int .i64 0) else C[i]? :=by
    intro i hi;have hlt:(C.toList.take (j*256+0)).length=j*256:=by rw[List.length_take,Array.length_toList,h2];omega
    rw[List.getElem?_toArray,List.append_assoc];by_cases a1:i<j*256
    ·rw[List.getElem?_append_left (by omega),List.getElem?_take,if_pos (by omega),if_neg (by omega)];simp
    ·rw[List.getElem?_append_right (by omega),hlt];by_cases a2:i<j*256+256
     ·rw[List.getElem?_append_left (by rw[List.length_replicate];omega),List.getElem?_replicate,if_pos (by omega),if_pos (by omega)]
     ·rw[List.getElem?_append_right (by rw[List.length_replicate];omega),List.length_replicate,List.getElem?_drop,if_neg (by omega)];rw[show j*256+0+256+(i-j*256-256)=i by omega];simp
   obtain⟨q0,q1,q2,q3⟩:=h3 n k hn hk;rw[hget (n*256+k*4) (by omega),hget (n*256+k*4+1) (by omega),hget (n*256+k*4+2) (by omega),hget (n*256+k*4+3) (by omega)];by_cases e:n=j
   ·subst e;rw[if_pos (by omega),if_pos (by omega),if_pos (by omega),if_pos (by omega)];simp[zer]
   ·rw[if_neg (by omega),if_neg (by omega),if_neg (by omega),if_neg (by omega)];have hne:¬((n:Int)=(j:Int)):=by omega
    simp only[if_neg hne];exact⟨q0,q1,q2,q3⟩
 ·exact⟨by rw[setRow_size];exact Nat.le_refl _,fun q hq hn=>setRow_other _ _ _ _ hn⟩
 ·intro w0 hg hb;exact AA.ofBelow (below_setRow (hg.trans (AA.drew (AA.refl W))).below hb _)
theorem PD(u:World)(v vp:Value)(l:List Gr.Nd)(p:List Gr.Stp)(t:Nat)(f:CR)(w0 w:World)(hu:AA u w)(hut:u.heap.size≤t)(hv:BC u w v l)(hcp:capOk v)(hp:BA u vp p)(hT:RTabAt w t f)(hg:AA w0 w)(ht:w0.heap.size≤t):
  Calls Tryz.prog 14 #[v,.pointer (some ⟨t,0,none⟩),vp] w (Iy u (Gr.applyE AP l p) p t f w0 w):=by
 have HAP:=hY fun W2 (g:AA w W2)=>Nw u v vp l p W2 (hu.trans g) (hv.grew g) hcp hp
 have HID:=hY fun h=>ZA (l:=l) (p:=p) h
 obtain⟨a,cap,rfl,-,-⟩:=(hv.at hu).openC;obtain⟨a2,cap2,rfl,hm2,-⟩:=hp.openC;have HP:=hY hp;have HT:=hY hT;have HG:=hY hg;have HU:=hY hu;have HTT:=hY ht;have HUT:=hY hut;clear hu hut hv hcp hp hT hg ht;generalize Gr.applyE AP l p=r at *;obtain⟨r1,k1,l9⟩:=r;by_cases hr:r1=0
 case neg =>
  have HAP2:=hY fun W2 (g:AA w W2)=>(HAP.o W2 g).mono fun e w' h=>A1D (r:=(r1,k1,l9)) hr h
  simp only at HAP2;have hb2:(r1 != 0)=true:=by rw[bne_iff_ne];exact hr
  have HR:=hY hr;clear HAP hr;go_enter Tryz.func14,Tryz.ntmps14
  go_wp2_with (go_at_call 44;((with_reducible refine Calls.mono (HAP2.o _ ?_) ?_));(focus(exact gw));rintro e5 w5 ⟨rfl,hg5⟩;(have HG5:=hY hg5);clear hg5)
  exact bodyPost_ret (v:=.tuple #[.slice none 0 0,.int .i64 r1]) (by simp[results,Tryz.results14,go_sem]) rfl ⟨HG.o.trans HG5.o,A7.ofGrew HG5.o,.inl ⟨HR.o,rfl⟩⟩
 subst hr;have HAP2:=hY fun W2 (g:AA w W2)=>(HAP.o W2 g).mono fun e w' h=>ZB h
 have HID2:=hY (HID.o rfl);clear HAP HID;go_enter Tryz.func14,Tryz.ntmps14
 go_wp2_with (go_at_call 44;((with_reducible refine Calls.mono (HAP2.o _ ?_) ?_));(focus(exact gw));rintro e5 w5 ⟨hg5,v5,rfl,hn5,hc5⟩;obtain⟨n5,a5,cp5,rfl⟩:∃(n5:Nat) (a5:Option Addr) (cp5:Nat),v5 = .slice a5 n5 cp5:=(by obtain⟨lc5,h5,-⟩:=hn5;obtain⟨a,c,h⟩:=h5.len;exact⟨_,a,c,h⟩);(have HG5:=hY hg5);(have HN5:=hY hn5);(have HC5:=hY hc5);clear hg5 hn5 hc5)
 go_loopg [11] p.length (fun gg s11 wr=>∃k:Nat,k≤p.length∧p.length-k≤gg∧s11 = .int .i64 k∧Hid (AA w0 wr)∧Hid (AA u wr)∧Hid (A7 t w wr)∧Hid (BC u wr (.slice a5 n5 cp5) l9)∧Hid (RTabAt wr t (GY f (p.take k))))
 case atStart=>exact⟨0,by omega,by omega,rfl,hY (HG.o.trans HG5.o),hY (HU.o.trans HG5.o),hY (A7.ofGrew HG5.o),HN5,hY (HT.o.grew HG5.o)⟩
 case round =>
  obtain⟨k,hk,hgg,rfl,HG9,HU9,HK9,HN9,HT9⟩:=hrel;rename World=>wa;by_cases hlt:k<p.length
  ·obtain⟨a',cap',e,-,hx⟩:=(HP.o.grew HU9.o).openC;cases e;obtain⟨b,off,c,rfl,hb,hn,c0,c1,c2,c3,c4,c5,c6,c7,c8,c9,c10,c11,c12,c13,c14⟩:=hx k hlt;have HTK:=hY (V9 (f:=f) hlt);obtain⟨i0,i7⟩:=HID2.o _ (List.getElem_mem hlt);have e1:=hn.kind;have e2:=hn.reset;have e3:=hn.nd.id;clear hx;clear hn;obtain⟨kd,⟨id,kind,af,nf,cf,ap,np,cp,par,r0,q1,q2,q3,q4,q5,q6,q7⟩,rs⟩:=c;simp only at c0 c1 c2 c3 c4 c5 c6 c7 c8 c9 c10 c11 c12 c13 c14 e1 e2 e3;obtain⟨j,rfl⟩:∃j:Nat,id=(j:Int):=⟨id.toNat,by omega⟩;have hj7:(j:Int)<8:=by omega
   have hj0:0≤(j:Int):=by omega
   by_cases hw:Kq p[k]
   ·have hf:Tw (GY f (p.take k)) p[k]=fun n k2=>if n=(j:Int) then zer else GY f (p.take k) n k2:=by
     unfold Tw;rw[if_pos hw,e3]
    have hw2:kd=1∧rs=true∨kd=2∨kd=3:=by
     unfold Kq at hw;rw[e1,e2] at hw;exact hw
    have HF:=hY hf;have pt:=Ad.mk HT9.o.lt;obtain⟨W8,hst,hT8,hk8,hgg⟩:=ZC HT9.o j (by omega);have HT8:=hY hT8;have HK8:=hY hk8;have HGG:=hY hgg;clear hw hf e1 e2 e3 i0 i7 hT8 hk8 hgg;rcases hw2 with ⟨rfl,rfl⟩|rfl|rfl
    ·go_upto_region 8 with fail
     refine wp_region_noPanic ?_
     go_region_law (fail)
     all_goals
      refine NoPanic.normal ?_;go_wp2
      go_roundg (p.length-(k+1))
      case measure=>omega
      case rel=>exact⟨k+1,by omega,by omega,by go_num,hY (HGG.o _ HG9.o HTT.o),hY (HGG.o _ HU9.o HUT.o),hY (HK9.o.trans HK8.o),hY (BC.keepT HN9.o HT9.o HK8.o),hY (by rw[HTK.o,HF.o];exact HT8.o)⟩
    ·go_upto_region 8 with fail
     refine wp_region_noPanic ?_
     go_region_law (fail)
     all_goals
      refine NoPanic.normal ?_;go_wp2
      go_roundg (p.length-(k+1))
      case measure=>omega
      case rel=>exact⟨k+1,by omega,by omega,by go_num,hY (HGG.o _ HG9.o HTT.o),hY (HGG.o _ HU9.o HUT.o),hY (HK9.o.trans HK8.o),hY (BC.keepT HN9.o HT9.o HK8.o),hY (by rw[HTK.o,HF.o];exact HT8.o)⟩
    ·go_upto_region 8 with fail
     refine wp_region_noPanic ?_
     go_region_law (fail)
     all_goals
      refine NoPanic.normal ?_;go_wp2
      go_roundg (p.length-(k+1))
      case measure=>omega
      case rel=>exact⟨k+1,by omega,by omega,by go_num,hY (HGG.o _ HG9.o HTT.o),hY (HGG.o _ HU9.o HUT.o),hY (HK9.o.trans HK8.o),hY (BC.keepT HN9.o HT9.o HK8.o),hY (by rw[HTK.o,HF.o];exact HT8.o)⟩
   ·have hf:Tw (GY f (p.take k)) p[k]=GY f (p.take k):=by
     unfold Tw;rw[if_neg hw]
    have hw2:¬(kd=1∧rs=true)∧kd≠2∧kd≠3:=by
     unfold Kq at hw;rw[e1,e2] at hw;exact⟨fun q=>hw (.inl q),fun q=>hw (.inr (.inl q)),fun q=>hw (.inr (.inr q))⟩
    have HF:=hY hf;have h2:(kd==2)=false:=by simpa using hw2.2.1
    have h3:(kd==3)=false:=by simpa using hw2.2.2
    by_cases h1:kd=1
    ·have hrs:rs=false:=by
      cases rs
      ·rfl
      ·exact absurd ⟨h1,rfl⟩ hw2.1
     subst h1 hrs;clear hw hf e1 e2 e3 i0 i7 hw2;go_wp2
     go_roundg (p.length-(k+1))
     case measure=>omega
     case rel=>exact⟨k+1,by omega,by omega,by go_num,HG9,HU9,HK9,HN9,hY (by rw[HTK.o,HF.o];exact HT9.o)⟩
    ·have h1':(kd==1)=false:=by simpa using h1
     clear hw hf e1 e2 e3 i0 i7 hw2 h1;go_wp2
     go_roundg (p.length-(k+1))
     case measure=>omega
     case rel=>exact⟨k+1,by omega,by omega,by go_num,HG9,HU9,HK9,HN9,hY (by rw[HTK.o,HF.o];exact HT9.o)⟩
  ·obtain rfl:k=p.length:=by omega
   have ht9:=HT9.o;rw[List.take_length] at ht9;have HT8:=hY ht9;clear ht9;go_wp2;exact bodyPost_ret (v:=.tuple #[.slice a5 n5 cp5,.int .i64 0]) (by simp[results,Tryz.results14,go_sem]) rfl ⟨HG9.o,HK9.o,.inr ⟨rfl,_,rfl,HN9.o,HC5.o,HT8.o⟩⟩
end Go.Proofs.YtgebkpgilgppgaaGreat
