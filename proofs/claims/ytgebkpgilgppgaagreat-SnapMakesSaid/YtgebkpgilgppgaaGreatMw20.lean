import Derived.Test.YtgebkpgilgppgaaGreatMw16
import Derived.Test.YtgebkpgilgppgaaGreatMw9
import Derived.Test.YtgebkpgilgppgaaGreatMw12
import Derived.Test.YtgebkpgilgppgaaGreatMw5
import Derived.Test.YtgebkpgilgppgaaGreatMw17
import Derived.Test.YtgebkpgilgppgaaGreatMw13
import Derived.Deep.QuietTactic
import Derived.BigQuiet
import Derived.Deep.RegionHeld3
import Derived.Deep.DeepCutAuto
import Derived.Deep.CutBlock
set_option linter.unusedSimpArgs false
set_option linter.unusedVariables false
set_option maxRecDepth 100000
set_option maxHeartbeats 64000000
namespace Go.Proofs.YtgebkpgilgppgaaGreat
open Go.RowKit Ga
theorem A31(l:List Val)(w wr:World)(a:Option Addr)(cap b3 bx bd cd bt ct k n9:Nat)(d e mx' em':Int)(x y:Int)(u0 u1:Bool)(T' M:List Pl)(dep:List Int)(a0:Act)(J:Nat→Act→World→Prop)(K K2:Act→World→Prop)
  (hJ:∀(n:Nat) (a':Act) (w':World),(∃u,a'=Di (.slice a l.length cap) w.heap.size b3 u∧DT l w b3 n (u 5) w')→J n a' w') (hK:∀(a':Act) (w':World),Handed J n9 a' w'→K a' w')
  (hv:Bq w (.slice a l.length cap) l) (hf0:Co.fitsI l=true) (hgn:Vm.Gone l M (T'++[((k:Int),d,e)]) dep) (hin:((k:Int),d,e)∉M) (h8:d≤8) (h4:e≤4) (hli:l[k]? = some (x,y)) (hdep:¬(0≤dep.getD k (-1)∧dep.getD k (-1)≠d)) (hme:n9=2*Vm.free M+(T'++[((k:Int),d,e)]).length) (hbx:b3+1<bx)
  (hga4:Ba w w.heap.size b3 (b3+1) (M.length+1) wr (.slice (some ⟨bd,0,none⟩) dep.length cd) (.slice (some ⟨bt,0,none⟩) T'.length ct) dep mx' em' u0 u1 T' (((k:Int),d,e)::M)) (hx4:wr.heap[bx]? = some (.cells #[.int .i64 k,.int .i64 d,.int .i64 e] 125))
  (ha:a0=Di (.slice a l.length cap) w.heap.size b3 (fun i=>a0.tmps.getD i undef)) (a5:a0.tmps.getD 5 undef = .slice (some ⟨bt,0,none⟩) T'.length ct) (a7:a0.tmps.getD 7 undef = .pointer (some ⟨bx,0,none⟩)) :
  Code.wp Tryz.prog ((Tryz.f23.body.bind (IB 24)).getD .skip) (Exit.inBlock 3 (Exit.then K (Exit.inBlock 2 (Exit.then K2 (bodyPost Tryz.prog Tryz.f23 (CU l w)))))) a0 wr:=by
 obtain⟨u,hu⟩:∃u:Nat→Value,u=fun i=>a0.tmps.getD i undef:=⟨_,rfl⟩
 rw[←hu] at ha;have u5':u 5=_:=(congrFun hu 5).trans a5;have u7':u 7=_:=(congrFun hu 7).trans a7;clear hu a5 a7;subst ha
 conv=>arg 2;whnf
 unfold Di;rw[u5',u7'];dsimp only;have HV:=hY hv;have HF:=hY hf0;have h24:=(Co.fits_parts hf0).1;have HGN:=hY hgn;have HIN:=hY hin;have HME:=hY hme;have hfr0:Vm.free (((k:Int),d,e)::M)<Vm.free M:=Vm.free_cons h24 hgn.okM ⟨by simp,by simpa using (hgn.at).1,(hgn.at).2.1,h8,(hgn.at).2.2.2.1,h4⟩ hin;have HFR:=hY hfr0;obtain⟨q1,q2,q3,q4,q5⟩:=hgn.at;have hMl:M.length≤1125:=by have:=hgn.fr;omega
 have hTl:T'.length≤1125:=by have:=hgn.tl;rw[List.length_append] at this;simp at this;omega
 have hkl':k<l.length:=(List.getElem?_eq_some_iff.1 hli).1;have hdl:k<dep.length:=by rw[hgn.len];exact hkl'
 have hri:=(Co.fits_parts hf0).2 _ (List.mem_of_getElem? hli);obtain⟨r0,r1,r2,r3,r4,r6⟩:=Fe hri;have r5:=KF hri;have HLI:=hY hli;have HCL:=hY hdep
 obtain⟨b,off,rfl,-⟩:=hv.open2.elim fun a' h=>h.elim fun c' h=>by
  obtain⟨e,-,hx⟩:=h;cases e;exact hx k hkl'
 clear hv hf0 hgn hin hli hdep hme hfr0 hri;have HJ:=hY hJ;have HKK:=hY hK;have HGA4:=hY hga4;have HX4:=hY hx4;obtain⟨bd',cd',curd',hv',hbd',hhd,kd⟩:=Xh hga4.d (k:=k) hdl;cases hv';have kx0:=cell_of (o:=0) hx4;have kx1:=cell_of (o:=1) hx4;simp at kx0 kx1;have px:=Ad.mk (AB hx4);have k30:=cell_of (o:=0) hga4.c3;simp at k30;have p3:=Ad.mk (AB hga4.c3);have pd:=Ad.mk (AB hhd);have fd:=AJ (o:=k) hhd
 have hne:bd≠bx:=by
  rintro rfl;rw[hhd] at hx4;cases hx4
 clear hga4 hx4 hhd hbd'
 go_upto_region 24 with fail
 go_cut [] (fun wx=>Ba w w.heap.size b3 (b3+1) (M.length+1) wx (.slice (some ⟨bd,0,none⟩) dep.length cd) (.slice (some ⟨bt,0,none⟩) T'.length ct) (dep.set k d) mx' em' u0 u1 T' (((k:Int),d,e)::M)∧wx.heap[bx]? = some (.cells #[.int .i64 k,.int .i64 d,.int .i64 e] 125))
 case first =>
  go_wp2
  go_meet
  exact⟨HGA4.o.setDep hdl d,(AQ hne).trans HX4.o⟩
 obtain⟨hga5,hx5⟩:=hcut;clear HGA4 HX4 kx0 kx1 px k30 p3 pd fd kd hne;have kx0:=cell_of (o:=0) hx5;have kx1:=cell_of (o:=1) hx5;simp at kx0 kx1;have px:=Ad.mk (AB hx5);obtain⟨a',c',e',-,hx'⟩:=(HV.o.grew hga5.g).open2;cases e';obtain⟨b',off',e',hb',h0',h1'⟩:=hx' k hkl';cases e';have hl2:=HLI.o;rw[List.getElem?_eq_getElem hkl'] at hl2;have hl3:=Option.some.inj hl2;rw[hl3] at h0' h1';simp only at h0' h1';have HX5:=hY hx5;have HGA5:=hY hga5;clear hx' hl2 hl3 hga5 hx5
 go_upto_region 26 with fail
 go_cut [117] (fun s wx=>s = .bool (decide (d<Cm x))∧AA wc wx)
 case first =>
  go_quiet (first|(go_at_call 55;refine Calls.quiet_of_same ((OT _ r0 r1 _).mono fun e w' h=>⟨h.1,h.2.symm⟩)))
  go_wp2
  go_meet
  exact⟨rfl,gw⟩
 obtain⟨rfl,hg6⟩:=hcut;have hga6:=HGA5.o.grew hg6;have hx6:=AC hg6 HX5.o;have HGA6:=hY hga6;have HX6:=hY hx6;clear HGA5 HX5 kx0 kx1 px hg6 hb' h0';by_cases ht:d<Cm x
 ·rw[decide_eq_true ht];have hun:=HGN.o.short HLI.o ht;have HUN:=hY hun;clear hun ht;have hp2:=Ad.mk (AB hga6.c2);have hd0:=cell_of (o:=0) hga6.c2;have hf0:=AJ (o:=0) hga6.c2;have hd1:=cell_of (o:=1) hga6.c2;have hf1:=AJ (o:=1) hga6.c2;have hd2:=cell_of (o:=2) hga6.c2;have hf2:=AJ (o:=2) hga6.c2;have hd3:=cell_of (o:=3) hga6.c2;have hf3:=AJ (o:=3) hga6.c2;have hd4:=cell_of (o:=4) hga6.c2;have hf4:=AJ (o:=4) hga6.c2;have hd5:=cell_of (o:=5) hga6.c2;have hf5:=AJ (o:=5) hga6.c2;simp at hd0 hd1 hd2 hd3 hd4 hd5;clear hga6 hx6;go_wp2;refine bodyPost_ret (v:=.agg #[.slice none 0 0,.int .i64 0,.int .i64 0,.bool false,.bool false,.bool false]) (by simp[results,Tryz.results23,go_sem,hd0,hd1,hd2,hd3,hd4,hd5]) rfl (CU.mk HUN.o ?_);exact(((((HGA6.o.g.set (Nat.le_refl _) _).set (Nat.le_refl _) _).set (Nat.le_refl _) _).set (Nat.le_refl _) _).set (Nat.le_refl _) _).set (Nat.le_refl _) _
 rw[decide_eq_false ht];have HT:=hY ht;clear ht;obtain⟨a',c',e',-,hx'⟩:=(HV.o.grew hga6.g).open2;cases e';obtain⟨b',off',e',hb',h0',h1'⟩:=hx' k hkl';cases e';have hl2:=HLI.o;rw[List.getElem?_eq_getElem hkl'] at hl2;have hl3:=Option.some.inj hl2;rw[hl3] at h0' h1';simp only at h0' h1';have kx0:=cell_of (o:=0) hx6;simp at kx0;have px:=Ad.mk (AB hx6);have p3:=Ad.mk (AB hga6.c3);have k33:=cell_of (o:=3) hga6.c3;have k34:=cell_of (o:=4) hga6.c3;simp at k33 k34;have f33:=AJ (o:=3) hga6.c3;have f34:=AJ (o:=4) hga6.c3;clear hx' hl2 hl3 hga6 hx6
 go_upto_region 28 with fail
 go_cut [124] (fun s wx=>s = .bool (decide (x=4∨x=5))∧wx=wc)
 case first =>
  by_cases e4:x=4
  ·subst e4;go_wp2
   go_meet
   exact⟨rfl,rfl⟩
  ·have b4:(x==4)=false:=by simpa using e4
   by_cases e5:x=5
   ·subst e5;go_wp2
    go_meet
    exact⟨rfl,rfl⟩
   ·have b5:(x==5)=false:=by simpa using e5
    go_wp2
    go_meet
    exact⟨by simp[e4,e5],rfl⟩
 obtain⟨rfl,rfl⟩:=hcut
 go_upto_if 124 with fail
 go_cut [] (fun wx=>∃u0' u1',Ba w w.heap.size b3 (b3+1) (M.length+1) wx (.slice (some ⟨bd,0,none⟩) dep.length cd) (.slice (some ⟨bt,0,none⟩) T'.length ct) (dep.set k d) mx' em' u0' u1' T' (((k:Int),d,e)::M)∧wx.heap[bx]? = some (.cells #[.int .i64 k,.int .i64 d,.int .i64 e] 125))
 case first =>
  by_cases x45:x=4∨x=5
  ·rw[decide_eq_true x45];have y01:=r6 x45;clear x45 r6;rcases y01 with rfl|rfl
   ·go_wp2
    go_meet
    exact⟨true,u1,HGA6.o.setK 3 (.bool true) mx' em' true u1 rfl,(AQ (by omega)).trans HX6.o⟩
   ·go_wp2
    go_meet
    exact⟨u0,true,HGA6.o.setK 4 (.bool true) mx' em' u0 true rfl,(AQ (by omega)).trans HX6.o⟩
  ·rw[decide_eq_false x45];go_wp2
   go_meet
   exact⟨u0,u1,HGA6.o,HX6.o⟩
 obtain⟨u0',u1',hga8,hx8⟩:=hcut;clear HGA6 HX6 kx0 px p3 k33 k34 f33 f34 h0' h1' hb';have TL:=A32 l w wc (some ⟨b,off,none⟩) cap b3 bx bd cd bt ct k n9 d e mx' em' x y u0' u1' T' M dep
 first
  | (go_step;(refine TL _ J K K2 HJ.o HKK.o HV.o HF.o HGN.o HIN.o h8 h4 HLI.o HCL.o HME.o hbx HT.o hga8 hx8 ?_ ?_ ?_ ?_)<;>rfl)
def RS(v:Value)(st:Bw)(ix:Int): List Value:=v::(CS st++[.int .i64 ix])
structure Cu (w0 W:World) (B:Nat) (v:Value) (lc:List BM) (l:List Gr.Nd) (st:Bw) (s:Gr.Stp) (ix:Int):Prop where
 blk:W.heap[B]? = some (.cells (RS v st ix).toArray 212)
 own:Aa w0.heap.size W v lc
 inn:Ah w0.heap.size W lc l
 stp:Ai W st s
 sto:Ab w0.heap.size W st.c s.nd
 g:AA w0 W
 lb:w0.heap.size≤B
theorem Cu.grew{w0 W W':World}{B:Nat}{v:Value}{lc:List BM}{l:List Gr.Nd}{st:Bw}{s:Gr.Stp}{ix:Int}(h:Cu w0 W B v lc l st s ix)(q:AA W W'): Cu w0 W' B v lc l st s ix :=
 ⟨AC q h.blk,h.own.grew q,h.inn.grew q,h.stp.grew q,h.sto.grew q,h.g.trans q,h.lb⟩
theorem Ab.toN{base:Nat}{w w':World}{c:BM}{n:Gr.Nd}(o:Ab base w c n)(hb:∀(q:Nat) (cs:Array Value) (t:TypeId),w.heap[q]? = some (.cells cs t)→t≠64→t≠212→w'.heap[q]? = w.heap[q]?): Ab base w' c n:=by
 refine⟨OwnAt.same o.1 fun b h=>?_,OwnAt.same o.2 fun b h=>?_⟩
 ·obtain⟨h1,cs,h2⟩:=OwnAt.block o.1 h;exact hb b cs _ h2 (by decide) (by decide)
 ·obtain⟨h1,cs,h2⟩:=OwnAt.block o.2 h;exact hb b cs _ h2 (by decide) (by decide)
def Ko(w w':World): Prop:=∀(q:Nat) (cs:Array Value) (t:TypeId),w.heap[q]? = some (.cells cs t)→t≠64→t≠212→w'.heap[q]? = w.heap[q]?
theorem Ah.oth{base:Nat}{w w':World}{lc:List BM}{l:List Gr.Nd}(h:Ah base w lc l)(hk:Ko w w'): Ah base w' lc l :=
 BL.mono (fun c n ⟨h1,h2⟩=>⟨(h2.toN hk).is h1,h2.toN hk⟩) h
theorem Ko.set{w:World}{b o:Nat}{v:Value}{cs:Array Value}{t:TypeId}(hb:w.heap[b]? = some (.cells cs t))(ht:t=64∨t=212): Ko w (w.setCell ⟨b,o,none⟩ v):=by
 intro q cs' t' hq h1 h2;refine AQ fun e=>?_
 subst e;rw[hb] at hq;cases hq;exact ht.elim h1 h2
theorem Ko.trans{a b c:World}(h:Ko a b)(k:Ko b c): Ko a c:=fun q cs t hq h1 h2=>by
 have e:=h q cs t hq h1 h2;rw[k q cs t (e.trans hq) h1 h2,e]
theorem BL.set{α β:Type}{R:α→β→Prop}: ∀{xs:List α} {ys:List β},BL R xs ys→∀(i:Nat) {a:α} {b:β},R a b→BL R (xs.set i a) (ys.set i b)
 | [],[],_,i,a,b,h=>trivial
 | x::xs,y::ys,h,0,a,b,h2=>⟨h2,h.2⟩
 | x::xs,y::ys,h,i+1,a,b,h2=>⟨h.1,BL.set h.2 i h2⟩
 | [],_::_,h,_,_,_,_=>h.elim
 | _::_,[],h,_,_,_,_=>h.elim
theorem BL.cut{α β:Type}{R:α→β→Prop}: ∀{xs:List α} {ys:List β},BL R xs ys→∀(i:Nat),BL R (xs.take i++xs.drop (i+1)) (ys.take i++ys.drop (i+1))
 | [],[],_,i=>by simp[BL]
 | x::xs,y::ys,h,0=>h.2
 | x::xs,y::ys,h,i+1=>⟨h.1,BL.cut h.2 i⟩
 | [],_::_,h,_=>h.elim
 | _::_,[],h,_=>h.elim
theorem Av{base b n cap i j:Nat}{W:World}{lc:List BM}{c:BM}(h:Aa base W (.slice (some ⟨b,0,none⟩) n cap) lc)(hi:lc[i]? = some c)(hj:j<13): W.cell? ⟨b,i*13+j,none⟩=(Ae c)[j]? :=by
 obtain⟨h1,h2,h3,h4,cur,h5,h6,-⟩:=OwnAt.cells h;have hl:i<lc.length:=(List.getElem?_eq_some_iff.1 hi).1;rw[cell_of h5,OwnAt.get h h5 _ (by omega),Kn AZ hi hj]
theorem Bf{base b n cap i f:Nat}{W:World}{lc:List BM}{c c':BM}{x:Value}(h:Aa base W (.slice (some ⟨b,0,none⟩) n cap) lc)(hi:lc[i]? = some c)(hf:f<13)(he:Ae c'=(Ae c).set f x): Aa base (W.setCell ⟨b,i*13+f,none⟩ x) (.slice (some ⟨b,0,none⟩) n cap) (lc.set i c'):=by
 obtain⟨h1,h2,h3,h4,cur,h5,h6,-⟩:=OwnAt.cells h;have hl:i<lc.length:=(List.getElem?_eq_some_iff.1 hi).1;refine OwnAt.upd AZ (by decide) h hl h5 (set_self h5) (by simp) (fun q hq=>?_) fun r hr=>?_
 ·rw[Array.getElem?_setIfInBounds,if_neg (by omega)]
 ·rw[he,Array.getElem?_setIfInBounds,List.getElem?_set];have hlen:(Ae c).length=13:=rfl;by_cases e:f=r
  ·subst e;rw[if_pos rfl,if_pos rfl,if_pos (by omega),if_pos (by omega)]
  ·rw[if_neg (by omega),if_neg e,OwnAt.get h h5 _ (by omega),Kn AZ hi hr]
def Ip(w0:World)(B:Nat)(st:Bw)(s:Gr.Stp)(ix:Int)(r:Int×List Gr.Nd)(W:World)(e:Ending)(w':World): Prop:=e = .returned (.int .i64 r.1)∧(r.1=0→∃v lc,Cu w0 w' B v lc r.2 st s ix)∧AA w0 w'
def Iq(l:List Gr.Nd)(i:Nat)(n:Gr.Nd)(s:Gr.Stp): Int×List Gr.Nd:=if n.kind≠1 then (11,[]) else if Vm.safe s.nd.prog=true then (0,l.set i { n with prog:=s.nd.prog }) else (9,[])
theorem A07(w0 W:World)(B b n cap i:Nat)(lc:List BM)(l:List Gr.Nd)(st:Bw)(s:Gr.Stp)(ix:Int)(h:Cu w0 W B (.slice (some ⟨b,0,none⟩) n cap) lc l st s ix)(hi:i<l.length): Calls Tryz.prog 160 #[.pointer (some ⟨B,0,none⟩),.pointer (some ⟨b,i*13,none⟩)] W (Ip w0 B st s ix (Iq l i l[i] s) W):=by
 have hlen:=BL.len h.inn;have hic:i<lc.length:=by omega
 obtain⟨c,hc⟩:∃c,lc[i]? = some c:=⟨_,List.getElem?_eq_getElem hic⟩;obtain⟨hni,hno⟩:=BL.get h.inn i c l[i] hc (List.getElem?_eq_getElem hi);have hk:=hni.kind;have H:=hY h;have HC:=hY hc;have HNI:=hY hni;have HNO:=hY hno;have HS:=hY fun W2 (g:AA W W2)=>UW _ _ W2 (h.stp.nd.p.grew g)
 have k0:=Av (j:=1) h.own hc (by decide);have k3:=Av (j:=3) h.own hc (by decide);simp[Ae] at k0 k3;obtain⟨_,hbb,_,_,cur,hcur,_,_⟩:=OwnAt.cells h.own;have pb:=Ad.mk (AB hcur);have fb:=AJ (o:=i*13+3) hcur;have HCUR:=hY hcur;have x5:=cell_of (o:=5) h.blk;have pB:=Ad.mk (AB h.blk);simp[RS,CS] at x5;have HB:=hY hbb;clear h hc hni hno hcur;by_cases h1:l[i].kind=1
 case neg =>
  have he:Iq l i l[i] s=(11,[]):=if_pos h1;rw[he];have hne:(c.kind != 1)=true:=by rw[bne_iff_ne,←hk];exact h1
  clear he h1;go_enter Tryz.func160,Tryz.ntmps160
  go_wp2_with fail
  go_ret;exact⟨rfl,fun q=>absurd q (by decide),H.o.g.trans gw⟩
 have hne:(c.kind != 1)=false:=by rw[←hk,h1];rfl
 cases hs:Vm.safe s.nd.prog
 ·have he:Iq l i l[i] s=(9,[]):=by unfold Iq;rw[if_neg (by simpa using h1),hs];rfl
  rw[he];rw[hs] at HS;clear he h1 hs;go_enter Tryz.func160,Tryz.ntmps160
  go_wp2_with (go_at_call 121;refine(HS.o _ gw).mono ?_;rintro e w1 ⟨rfl,R3,n3,rfl⟩)
  go_ret;exact⟨rfl,fun q=>absurd q (by decide),H.o.g.trans gw⟩
 ·have he:Iq l i l[i] s=(0,l.set i { l[i] with prog:=s.nd.prog }):=by unfold Iq;rw[if_neg (by simpa using h1),hs];rfl
  rw[he];rw[hs] at HS;clear he h1 hs
  have hW:Cu w0 (W.setCell ⟨b,i*13+3,none⟩ (.slice st.c.ap st.c.np st.c.cp)) B (.slice (some ⟨b,0,none⟩) n cap) (lc.set i { c with ap:=st.c.ap,np:=st.c.np,cp:=st.c.cp }) (l.set i { l[i] with prog:=s.nd.prog }) st s ix:=by
   have ho:Ko W (W.setCell ⟨b,i*13+3,none⟩ (.slice st.c.ap st.c.np st.c.cp)):=Ko.set HCUR.o (.inl rfl);have o1:=HNO.o.toN ho;have o2:=H.o.sto.toN ho;refine⟨?_,Bf H.o.own HC.o (by decide) rfl,BL.set (H.o.inn.oth ho) i ⟨?_,?_⟩,?_,o2,H.o.g.set HB.o _,H.o.lb⟩
   ·rw[AQ fun e=>?_]
    ·exact H.o.blk
    ·have:=H.o.blk;rw[←e,HCUR.o] at this;cases this
   ·have:=o1.is HNI.o;exact { this with p:=OwnAt.rows o2.2 C8 }
   ·exact⟨o1.1,o2.2⟩
   ·exact { H.o.stp with nd:=o2.is H.o.stp.nd }
  have HW:=hY hW;clear hW;go_enter Tryz.func160,Tryz.ntmps160
  go_wp2_with (go_at_call 121;refine(HS.o _ gw).mono ?_;rintro e w1 ⟨rfl,R3,n3,rfl⟩)
  go_ret;refine⟨rfl,fun _=>⟨_,_,Cu.grew HW.o gw⟩,HW.o.g.trans gw⟩
theorem Cu.app{w0 W Wc W7:World}{B:Nat}{v v7:Value}{lc:List BM}{l:List Gr.Nd}{st:Bw}{s:Gr.Stp}{ix:Int}(h:Cu w0 W B v lc l st s ix)(g:AA W Wc)(hA:Ap w0 64 13 Ae Wc v (lc++[st.c]) v7 W7):
  W7.heap[B]? = some (.cells (RS v st ix).toArray 212)∧Cu w0 (W7.setCell ⟨B,0,none⟩ v7) B v7 (lc++[st.c]) (l++[s.nd]) st s ix:=by
 have hb:=AC g h.blk;have hown:=h.own.grew g
 have h7:W7.heap[B]? = some (.cells (RS v st ix).toArray 212):=by
  rw[hA.2.2.2.1 B (AB hb) (OwnAt.other hown hb (by decide))];exact hb
 refine⟨h7,?_⟩;have o1:Ko Wc W7:=fun q cs t hq h1 _=>hA.2.2.2.1 q (AB hq) (OwnAt.other hown hq h1)
 have ho:Ko Wc (W7.setCell ⟨B,0,none⟩ v7):=o1.trans (Ko.set h7 (.inr rfl));have hs:=(h.sto.grew g).toN ho;refine⟨?_,?_,BL.snoc ((h.inn.grew g).oth ho) ⟨hs.is (h.stp.grew g).nd,hs⟩,?_,hs,hA.1.set h.lb _,h.lb⟩
 ·rw[set_self h7]
  congr 2
 ·exact OwnAt.same hA.2.1 fun q hq=>AQ fun e=>OwnAt.other hA.2.1 h7 (by decide) (e▸hq)
 ·exact { h.stp.grew g with nd:=hs.is (h.stp.grew g).nd }
def addE(l:List Gr.Nd)(s:Gr.Stp)(ix:Int): Int×List Gr.Nd:=if 0≤ix then (13,[]) else if s.nd.kind=0 then (11,[]) else (0,l++[s.nd])
theorem A2a(w0 W:World)(B:Nat)(v:Value)(lc:List BM)(l:List Gr.Nd)(st:Bw)(s:Gr.Stp)(ix:Int)(h:Cu w0 W B v lc l st s ix)(hl:l.length≤1000): Calls Tryz.prog 139 #[.pointer (some ⟨B,0,none⟩)] W (Ip w0 B st s ix (addE l s ix) W):=by
 have hlen:=BL.len h.inn;have hk:=h.stp.nd.kind;have H:=hY h;obtain⟨kd,⟨id,kind,af,nf,cf,ap,np,cp,par,r0,r1,r2,r3,r4,r5,r6,r7⟩,rs⟩:=st;simp only at hk;have x0:=cell_of (o:=0) h.blk;have x2:=cell_of (o:=2) h.blk;have x3:=cell_of (o:=3) h.blk;have x4:=cell_of (o:=4) h.blk;have x5:=cell_of (o:=5) h.blk;have x6:=cell_of (o:=6) h.blk;have x7:=cell_of (o:=7) h.blk;have x8:=cell_of (o:=8) h.blk;have x9:=cell_of (o:=9) h.blk;have x10:=cell_of (o:=10) h.blk;have x11:=cell_of (o:=11) h.blk;have x12:=cell_of (o:=12) h.blk;have x13:=cell_of (o:=13) h.blk;have x14:=cell_of (o:=14) h.blk;have x16:=cell_of (o:=16) h.blk;have pB:=Ad.mk (AB h.blk);simp[RS,CS] at x0 x2 x3 x4 x5 x6 x7 x8 x9 x10 x11 x12 x13 x14 x16;have HLC:Hid (lc.length≤1000):=hY (by omega);clear h hlen;by_cases h0:0≤ix
 ·have he:addE l s ix=(13,[]):=if_pos h0;rw[he];clear he;go_enter Tryz.func139,Tryz.ntmps139
  go_wp2_with fail
  go_ret;exact⟨rfl,fun q=>absurd q (by decide),H.o.g.trans gw⟩
 by_cases h1:s.nd.kind=0
 ·have he:addE l s ix=(11,[]):=by unfold addE;rw[if_neg h0,if_pos h1]
  rw[he];have hkz:kind=0:=by rw[←hk];exact h1
  subst hkz;clear he h1 hk;go_enter Tryz.func139,Tryz.ntmps139
  go_wp2_with fail
  go_ret;exact⟨rfl,fun q=>absurd q (by decide),H.o.g.trans gw⟩
 ·have he:addE l s ix=(0,l++[s.nd]):=by unfold addE;rw[if_neg h0,if_neg h1]
  rw[he];have hkz:(kind==0)=false:=by rw[←hk];simpa using h1
  clear he h1 hk;go_enter Tryz.func139,Tryz.ntmps139
  go_upto_region 5 with fail
  go_cut [] (fun wx=>∃v' lc',Cu w0 wx B v' lc' (l++[s.nd]) ⟨kd,⟨id,kind,af,nf,cf,ap,np,cp,par,r0,r1,r2,r3,r4,r5,r6,r7⟩,rs⟩ s ix)
  case first =>
   refine wp_region_noPanic ?_
   go_region_law (refine JL (w0:=w0) (v:=v) rfl (.tmp 21) (.tmp 27) 22 _ _ _ _ [⟨id,kind,af,nf,cf,ap,np,cp,par,r0,r1,r2,r3,r4,r5,r6,r7⟩] rfl Tryz.underlying22 CX rfl (by decide) AZ BP rfl (OwnAt.grew H.o.own gw) (H.o.g.trans gw) rfl (XB _ _ _ _ rfl (by simp[go_sem])) (by have:=HLC.o;simp;omega) (by decide) Nat.one_pos ?_;intro v9 W9 hA;obtain⟨a9,c9,rfl⟩:=(OwnAt.rows hA.2.1 AZ).len;obtain⟨hb9,hw9⟩:=H.o.app gw hA;(have HW9:=hY hw9);(have cb9:=cell_of (o:=0) hb9);(have fb9:=AJ (o:=0) hb9);(have pb9:=Ad.mk (AB hb9));simp[RS] at cb9;clear hA hb9 hw9)
   all_goals
    refine NoPanic.normal ?_;go_wp2
    go_meet
    have hw:=HW9.o;rw[List.length_append,List.length_singleton] at hw;exact⟨_,_,hw⟩
  obtain⟨v',lc',hw⟩:=hcut;have HW:=hY hw;clear hw;go_wp2;go_ret;exact⟨rfl,fun _=>⟨_,_,Cu.grew HW.o gw⟩,HW.o.g.trans gw⟩
def Kk(l:List Gr.Nd)(i:Nat)(n:Gr.Nd)(s:Gr.Stp): Int×List Gr.Nd :=
 if s.kind=1 then Iq l i n s
 else if s.kind=3 then (if n.kind=0∨Io l n.id=true then (11,[]) else (0,l.take i++l.drop (i+1)))
 else if s.kind=4 then (if n.kind=0 then (11,[]) else (0,l.set i { n with par:=s.nd.par,route:=s.nd.route }))
 else (if n.kind≠2 then (11,[]) else (0,l.set i { n with frm:=s.nd.frm }))
theorem Cu.setN{w0 W W':World}{B b n cap i:Nat}{lc:List BM}{l:List Gr.Nd}{st:Bw}{s:Gr.Stp}{ix:Int}{c':BM}{m':Gr.Nd}(h:Cu w0 W B (.slice (some ⟨b,0,none⟩) n cap) lc l st s ix)(ho:Ko W W')(hB:W'.heap[B]? = W.heap[B]?)(hg:AA w0 W')(hown:Aa w0.heap.size W' (.slice (some ⟨b,0,none⟩) n cap) (lc.set i c'))(h1:A9 W' c' m')(h2:Ab w0.heap.size W' c' m'):
  Cu w0 W' B (.slice (some ⟨b,0,none⟩) n cap) (lc.set i c') (l.set i m') st s ix:=by
 have o2:=h.sto.toN ho;exact⟨hB.trans h.blk,hown,BL.set (h.inn.oth ho) i ⟨h1,h2⟩,{ h.stp with nd:=o2.is h.stp.nd },o2,hg,h.lb⟩
theorem Cu.del{w0 W W':World}{B b n m cap i:Nat}{lc:List BM}{l:List Gr.Nd}{st:Bw}{s:Gr.Stp}{ix:Int}(h:Cu w0 W B (.slice (some ⟨b,0,none⟩) n cap) lc l st s ix)(hk:A7 b W W')(hg:AA w0 W')(hown:Aa w0.heap.size W' (.slice (some ⟨b,0,none⟩) m cap) (lc.take i++lc.drop (i+1))):
  W'.heap[B]? = some (.cells (RS (.slice (some ⟨b,0,none⟩) n cap) st ix).toArray 212)∧Cu w0 (W'.setCell ⟨B,0,none⟩ (.slice (some ⟨b,0,none⟩) m cap)) B (.slice (some ⟨b,0,none⟩) m cap) (lc.take i++lc.drop (i+1)) (l.take i++l.drop (i+1)) st s ix:=by
 obtain⟨-,-,-,-,cur,hcur,-,-⟩:=OwnAt.cells h.own
 have hne:B≠b:=fun e=>by
  have:=h.blk;rw[e,hcur] at this;cases this
 have h7:W'.heap[B]? = some (.cells (RS (.slice (some ⟨b,0,none⟩) n cap) st ix).toArray 212):=(hk.2 B (AB h.blk) hne).trans h.blk;refine⟨h7,?_⟩
 have o1:Ko W W':=fun q cs t hq h1 _=>hk.2 q (AB hq) fun e=>by
  subst e;rw[hcur] at hq;cases hq;exact h1 rfl
 have ho:=o1.trans (Ko.set (o:=0) (v:=.slice (some ⟨b,0,none⟩) m cap) h7 (.inr rfl));have o2:=h.sto.toN ho;refine⟨?_,?_,BL.cut (h.inn.oth ho) i,{ h.stp with nd:=o2.is h.stp.nd },o2,hg.set h.lb _,h.lb⟩
 ·rw[set_self h7]
  congr 2
 ·exact OwnAt.same hown fun q hq=>AQ fun e=>OwnAt.other hown h7 (by decide) (e▸hq)
theorem Cu.set5{w0 W:World}{B b n cap i:Nat}{lc:List BM}{l:List Gr.Nd}{st:Bw}{s:Gr.Stp}{ix:Int}{c:BM}(h:Cu w0 W B (.slice (some ⟨b,0,none⟩) n cap) lc l st s ix)(hc:lc[i]? = some c)(hi:i<l.length):
  Cu w0 (W.setCell ⟨b,i*13+2,none⟩ (.slice st.c.af st.c.nf st.c.cf)) B (.slice (some ⟨b,0,none⟩) n cap) (lc.set i { c with af:=st.c.af,nf:=st.c.nf,cf:=st.c.cf }) (l.set i { l[i] with frm:=s.nd.frm }) st s ix:=by
 obtain⟨hni,hno⟩:=BL.get h.inn i c l[i] hc (List.getElem?_eq_getElem hi);obtain⟨_,hbb,_,_,cur,hcur,_,_⟩:=OwnAt.cells h.own;have ho:Ko W (W.setCell ⟨b,i*13+2,none⟩ (.slice st.c.af st.c.nf st.c.cf)):=Ko.set hcur (.inl rfl);have o1:=hno.toN ho;have o2:=h.sto.toN ho;refine h.setN ho (AQ fun e=>?_) (h.g.set hbb _) (Bf h.own hc (by decide) rfl) ?_ ⟨o2.1,o1.2⟩
 ·have:=h.blk;rw[←e,hcur] at this;cases this
 ·have:=o1.is hni;exact { this with f:=OwnAt.rows o2.1 Ar,fc:=h.stp.nd.fc }
theorem Cu.set4{w0 W:World}{B b n cap i:Nat}{lc:List BM}{l:List Gr.Nd}{st:Bw}{s:Gr.Stp}{ix:Int}{c:BM}(h:Cu w0 W B (.slice (some ⟨b,0,none⟩) n cap) lc l st s ix)(hc:lc[i]? = some c)(hi:i<l.length):
  Cu w0 (((((((((W.setCell ⟨b,i*13+4,none⟩ (.int .i64 st.c.par)).setCell ⟨b,i*13+5,none⟩ (.int .i64 st.c.r0)).setCell ⟨b,i*13+6,none⟩ (.int .i64 st.c.r1)).setCell ⟨b,i*13+7,none⟩ (.int .i64 st.c.r2)).setCell ⟨b,i*13+8,none⟩ (.int .i64 st.c.r3)).setCell ⟨b,i*13+9,none⟩ (.int .i64 st.c.r4)).setCell ⟨b,i*13+10,none⟩ (.int .i64 st.c.r5)).setCell ⟨b,i*13+11,none⟩ (.int .i64 st.c.r6)).setCell ⟨b,i*13+12,none⟩ (.int .i64 st.c.r7)) B (.slice (some ⟨b,0,none⟩) n cap) (lc.set i { c with par:=st.c.par,r0:=st.c.r0,r1:=st.c.r1,r2:=st.c.r2,r3:=st.c.r3,r4:=st.c.r4,r5:=st.c.r5,r6:=st.c.r6,r7:=st.c.r7 }) (l.set i { l[i] with par:=s.nd.par,route:=s.nd.route }) st s ix:=by
 have hic:i<lc.length:=(List.getElem?_eq_some_iff.1 hc).1;obtain⟨hni,hno⟩:=BL.get h.inn i c l[i] hc (List.getElem?_eq_getElem hi);obtain⟨_,hbb,_,_,cur,hcur,_,_⟩:=OwnAt.cells h.own;have c0:=hcur;have c1:=set_self (o:=i*13+4) (v:=(.int .i64 st.c.par)) c0;have c2:=set_self (o:=i*13+5) (v:=(.int .i64 st.c.r0)) c1;have c3:=set_self (o:=i*13+6) (v:=(.int .i64 st.c.r1)) c2;have c4:=set_self (o:=i*13+7) (v:=(.int .i64 st.c.r2)) c3;have c5:=set_self (o:=i*13+8) (v:=(.int .i64 st.c.r3)) c4;have c6:=set_self (o:=i*13+9) (v:=(.int .i64 st.c.r4)) c5;have c7:=set_self (o:=i*13+10) (v:=(.int .i64 st.c.r5)) c6;have c8:=set_self (o:=i*13+11) (v:=(.int .i64 st.c.r6)) c7;have c9:=set_self (o:=i*13+12) (v:=(.int .i64 st.c.r7)) c8;have ho:Ko W (((((((((W.setCell ⟨b,i*13+4,none⟩ (.int .i64 st.c.par)).setCell ⟨b,i*13+5,none⟩ (.int .i64 st.c.r0)).setCell ⟨b,i*13+6,none⟩ (.int .i64 st.c.r1)).setCell ⟨b,i*13+7,none⟩ (.int .i64 st.c.r2)).setCell ⟨b,i*13+8,none⟩ (.int .i64 st.c.r3)).setCell ⟨b,i*13+9,none⟩ (.int .i64 st.c.r4)).setCell ⟨b,i*13+10,none⟩ (.int .i64 st.c.r5)).setCell ⟨b,i*13+11,none⟩ (.int .i64 st.c.r6)).setCell ⟨b,i*13+12,none⟩ (.int .i64 st.c.r7)):=(((((((((Ko.set c0 (.inl rfl)).trans (Ko.set c1 (.inl rfl))).trans (Ko.set c2 (.inl rfl))).trans (Ko.set c3 (.inl rfl))).trans (Ko.set c4 (.inl rfl))).trans (Ko.set c5 (.inl rfl))).trans (Ko.set c6 (.inl rfl))).trans (Ko.set c7 (.inl rfl))).trans (Ko.set c8 (.inl rfl)));have o1:=hno.toN ho;have o2:=h.sto.toN ho
 have hBb:b≠B:=fun e=>by
  have:=h.blk;rw[←e,hcur] at this;cases this
 have n1:Aa w0.heap.size (W.setCell ⟨b,i*13+4,none⟩ (.int .i64 st.c.par)) (.slice (some ⟨b,0,none⟩) n cap) (lc.set i { c with par:=st.c.par }):=by
  have:=Bf (c:=c) (c':={ c with par:=st.c.par }) (f:=4) (i:=i) (x:=(.int .i64 st.c.par)) h.own hc (by decide) rfl;exact this
 have n2:Aa w0.heap.size ((W.setCell ⟨b,i*13+4,none⟩ (.int .i64 st.c.par)).setCell ⟨b,i*13+5,none⟩ (.int .i64 st.c.r0)) (.slice (some ⟨b,0,none⟩) n cap) (lc.set i { c with par:=st.c.par,r0:=st.c.r0 }):=by
  have:=Bf (c:={ c with par:=st.c.par }) (c':={ c with par:=st.c.par,r0:=st.c.r0 }) (f:=5) (i:=i) (x:=(.int .i64 st.c.r0)) n1 (by rw[List.getElem?_set_self hic]) (by decide) rfl
  rwa [List.set_set] at this
 have n3:Aa w0.heap.size (((W.setCell ⟨b,i*13+4,none⟩ (.int .i64 st.c.par)).setCell ⟨b,i*13+5,none⟩ (.int .i64 st.c.r0)).setCell ⟨b,i*13+6,none⟩ (.int .i64 st.c.r1)) (.slice (some ⟨b,0,none⟩) n cap) (lc.set i { c with par:=st.c.par,r0:=st.c.r0,r1:=st.c.r1 }):=by
  have:=Bf (c:={ c with par:=st.c.par,r0:=st.c.r0 }) (c':={ c with par:=st.c.par,r0:=st.c.r0,r1:=st.c.r1 }) (f:=6) (i:=i) (x:=(.int .i64 st.c.r1)) n2 (by rw[List.getElem?_set_self hic]) (by decide) rfl
  rwa [List.set_set] at this
 have n4:Aa w0.heap.size ((((W.setCell ⟨b,i*13+4,none⟩ (.int .i64 st.c.par)).setCell ⟨b,i*13+5,none⟩ (.int .i64 st.c.r0)).setCell ⟨b,i*13+6,none⟩ (.int .i64 st.c.r1)).setCell ⟨b,i*13+7,none⟩ (.int .i64 st.c.r2)) (.slice (some ⟨b,0,none⟩) n cap) (lc.set i { c with par:=st.c.par,r0:=st.c.r0,r1:=st.c.r1,r2:=st.c.r2 }):=by
  have:=Bf (c:={ c with par:=st.c.par,r0:=st.c.r0,r1:=st.c.r1 }) (c':={ c with par:=st.c.par,r0:=st.c.r0,r1:=st.c.r1,r2:=st.c.r2 }) (f:=7) (i:=i) (x:=(.int .i64 st.c.r2)) n3 (by rw[List.getElem?_set_self hic]) (by decide) rfl
  rwa [List.set_set] at this
 have n5:Aa w0.heap.size (((((W.setCell ⟨b,i*13+4,none⟩ (.int .i64 st.c.par)).setCell ⟨b,i*13+5,none⟩ (.int .i64 st.c.r0)).setCell ⟨b,i*13+6,none⟩ (.int .i64 st.c.r1)).setCell ⟨b,i*13+7,none⟩ (.int .i64 st.c.r2)).setCell ⟨b,i*13+8,none⟩ (.int .i64 st.c.r3)) (.slice (some ⟨b,0,none⟩) n cap) (lc.set i { c with par:=st.c.par,r0:=st.c.r0,r1:=st.c.r1,r2:=st.c.r2,r3:=st.c.r3 }):=by
  have:=Bf (c:={ c with par:=st.c.par,r0:=st.c.r0,r1:=st.c.r1,r2:=st.c.r2 }) (c':={ c with par:=st.c.par,r0:=st.c.r0,r1:=st.c.r1,r2:=st.c.r2,r3:=st.c.r3 }) (f:=8) (i:=i) (x:=(.int .i64 st.c.r3)) n4 (by rw[List.getElem?_set_self hic]) (by decide) rfl
  rwa [List.set_set] at this
 have n6:Aa w0.heap.size ((((((W.setCell ⟨b,i*13+4,none⟩ (.int .i64 st.c.par)).setCell ⟨b,i*13+5,none⟩ (.int .i64 st.c.r0)).setCell ⟨b,i*13+6,none⟩ (.int .i64 st.c.r1)).setCell ⟨b,i*13+7,none⟩ (.int .i64 st.c.r2)).setCell ⟨b,i*13+8,none⟩ (.int .i64 st.c.r3)).setCell ⟨b,i*13+9,none⟩ (.int .i64 st.c.r4)) (.slice (some ⟨b,0,none⟩) n cap) (lc.set i { c with par:=st.c.par,r0:=st.c.r0,r1:=st.c.r1,r2:=st.c.r2,r3:=st.c.r3,r4:=st.c.r4 }):=by
  have:=Bf (c:={ c with par:=st.c.par,r0:=st.c.r0,r1:=st.c.r1,r2:=st.c.r2,r3:=st.c.r3 }) (c':={ c with par:=st.c.par,r0:=st.c.r0,r1:=st.c.r1,r2:=st.c.r2,r3:=st.c.r3,r4:=st.c.r4 }) (f:=9) (i:=i) (x:=(.int .i64 st.c.r4)) n5 (by rw[List.getElem?_set_self hic]) (by decide) rfl
  rwa [List.set_set] at this
 have n7:Aa w0.heap.size (((((((W.setCell ⟨b,i*13+4,none⟩ (.int .i64 st.c.par)).setCell ⟨b,i*13+5,none⟩ (.int .i64 st.c.r0)).setCell ⟨b,i*13+6,none⟩ (.int .i64 st.c.r1)).setCell ⟨b,i*13+7,none⟩ (.int .i64 st.c.r2)).setCell ⟨b,i*13+8,none⟩ (.int .i64 st.c.r3)).setCell ⟨b,i*13+9,none⟩ (.int .i64 st.c.r4)).setCell ⟨b,i*13+10,none⟩ (.int .i64 st.c.r5)) (.slice (some ⟨b,0,none⟩) n cap) (lc.set i { c with par:=st.c.par,r0:=st.c.r0,r1:=st.c.r1,r2:=st.c.r2,r3:=st.c.r3,r4:=st.c.r4,r5:=st.c.r5 }):=by
  have:=Bf (c:={ c with par:=st.c.par,r0:=st.c.r0,r1:=st.c.r1,r2:=st.c.r2,r3:=st.c.r3,r4:=st.c.r4 }) (c':={ c with par:=st.c.par,r0:=st.c.r0,r1:=st.c.r1,r2:=st.c.r2,r3:=st.c.r3,r4:=st.c.r4,r5:=st.c.r5 }) (f:=10) (i:=i) (x:=(.int .i64 st.c.r5)) n6 (by rw[List.getElem?_set_self hic]) (by decide) rfl
  rwa [List.set_set] at this
 have n8:Aa w0.heap.size ((((((((W.setCell ⟨b,i*13+4,none⟩ (.int .i64 st.c.par)).setCell ⟨b,i*13+5,none⟩ (.int .i64 st.c.r0)).setCell ⟨b,i*13+6,none⟩ (.int .i64 st.c.r1)).setCell ⟨b,i*13+7,none⟩ (.int .i64 st.c.r2)).setCell ⟨b,i*13+8,none⟩ (.int .i64 st.c.r3)).setCell ⟨b,i*13+9,none⟩ (.int .i64 st.c.r4)).setCell ⟨b,i*13+10,none⟩ (.int .i64 st.c.r5)).setCell ⟨b,i*13+11,none⟩ (.int .i64 st.c.r6)) (.slice (some ⟨b,0,none⟩) n cap) (lc.set i { c with par:=st.c.par,r0:=st.c.r0,r1:=st.c.r1,r2:=st.c.r2,r3:=st.c.r3,r4:=st.c.r4,r5:=st.c.r5,r6:=st.c.r6 }):=by
  have:=Bf (c:={ c with par:=st.c.par,r0:=st.c.r0,r1:=st.c.r1,r2:=st.c.r2,r3:=st.c.r3,r4:=st.c.r4,r5:=st.c.r5 }) (c':={ c with par:=st.c.par,r0:=st.c.r0,r1:=st.c.r1,r2:=st.c.r2,r3:=st.c.r3,r4:=st.c.r4,r5:=st.c.r5,r6:=st.c.r6 }) (f:=11) (i:=i) (x:=(.int .i64 st.c.r6)) n7 (by rw[List.getElem?_set_self hic]) (by decide) rfl
  rwa [List.set_set] at this
 have n9:Aa w0.heap.size (((((((((W.setCell ⟨b,i*13+4,none⟩ (.int .i64 st.c.par)).setCell ⟨b,i*13+5,none⟩ (.int .i64 st.c.r0)).setCell ⟨b,i*13+6,none⟩ (.int .i64 st.c.r1)).setCell ⟨b,i*13+7,none⟩ (.int .i64 st.c.r2)).setCell ⟨b,i*13+8,none⟩ (.int .i64 st.c.r3)).setCell ⟨b,i*13+9,none⟩ (.int .i64 st.c.r4)).setCell ⟨b,i*13+10,none⟩ (.int .i64 st.c.r5)).setCell ⟨b,i*13+11,none⟩ (.int .i64 st.c.r6)).setCell ⟨b,i*13+12,none⟩ (.int .i64 st.c.r7)) (.slice (some ⟨b,0,none⟩) n cap) (lc.set i { c with par:=st.c.par,r0:=st.c.r0,r1:=st.c.r1,r2:=st.c.r2,r3:=st.c.r3,r4:=st.c.r4,r5:=st.c.r5,r6:=st.c.r6,r7:=st.c.r7 }):=by
  have:=Bf (c:={ c with par:=st.c.par,r0:=st.c.r0,r1:=st.c.r1,r2:=st.c.r2,r3:=st.c.r3,r4:=st.c.r4,r5:=st.c.r5,r6:=st.c.r6 }) (c':={ c with par:=st.c.par,r0:=st.c.r0,r1:=st.c.r1,r2:=st.c.r2,r3:=st.c.r3,r4:=st.c.r4,r5:=st.c.r5,r6:=st.c.r6,r7:=st.c.r7 }) (f:=12) (i:=i) (x:=(.int .i64 st.c.r7)) n8 (by rw[List.getElem?_set_self hic]) (by decide) rfl
  rwa [List.set_set] at this
 refine h.setN ho (by rw[AQ hBb];rw[AQ hBb];rw[AQ hBb];rw[AQ hBb];rw[AQ hBb];rw[AQ hBb];rw[AQ hBb];rw[AQ hBb];rw[AQ hBb]) ((((((((((h.g.set hbb _).set hbb _).set hbb _).set hbb _).set hbb _).set hbb _).set hbb _).set hbb _).set hbb _)) n9 ?_ ⟨o1.1,o1.2⟩;have:=o1.is hni;exact { this with par:=h.stp.nd.par,route:=h.stp.nd.route }
theorem Bj{l:List Gr.Nd}(h:AP l=0): Gr.RightR l:=by
 unfold AP at h;split at h
 ·cases h
 ·split at h
  ·assumption
  ·cases h
theorem Ld:Gr.Chk AP where
 perm:=fun {l l'} hp=>by
  unfold AP;rw[hp.length_eq];have e:Gr.RightR l↔Gr.RightR l':=⟨fun h=>h.perm hp,fun h=>h.perm hp.symm⟩;by_cases h:Gr.RightR l
  ·rw[if_pos h,if_pos (e.1 h)]
  ·rw[if_neg h,if_neg (fun q=>h (e.2 q))]
 un:=fun {l} h=>((FC l).1 (Bj h)).un
 seven:=fun {l} h n hn=>by
  have:=((FC l).1 (Bj h)).ok n hn;exact⟨this.id0,by have:=this.id7;omega⟩
def FT(l:List Gr.Nd)(s:Gr.Stp): Int×List Gr.Nd :=
 if s.kind=2 then addE l (Gr.cleanS s) (Bh l s.nd.id)
 else match Gr.find l s.nd.id with
  | none=>(12,[])
  |some i=>match l[i]? with
   | none=>(12,[])
   | some n=>Kk l i n (Gr.cleanS s)
theorem Fy{l:List Gr.Nd}{x:Int}{i:Nat}(h:Gr.find l x=some i): ∃hi:i<l.length,l[i].id=x:=by
 unfold Gr.find at h;obtain⟨hi,h2,-⟩:=List.findIdx?_eq_some_iff_getElem.1 h;exact⟨hi,by simpa using h2⟩
theorem A2W(l:List Gr.Nd)(x:Int): Io l x=l.any fun m=>decide (x∈m.frm):=rfl
theorem QF{l:List Gr.Nd}{s:Gr.Stp}(hc:AP l=0)(hk:1≤s.kind∧s.kind≤5):
  ((FT l s).1≠0∧Gr.stepE AP l s=((FT l s).1,[]))∨((FT l s).1=0∧Gr.stepE AP l s=Gr.finE AP (FT l s).2):=by
 have hu:=Ld.un hc;unfold Gr.stepE;rw[if_neg (by rw[hc];decide),if_neg (by omega)];unfold FT
 cases hf:Gr.find l s.nd.id with
 |none =>
  have hn:Gr.nodeOf l s.nd.id=none:=by unfold Gr.nodeOf;rw[hf];rfl
  rw[hn];simp only;by_cases h2:s.kind=2
  ·rw[if_pos h2,if_pos h2];have hcl:Gr.cleanS s=⟨2,s.nd,false⟩:=by unfold Gr.cleanS;rw[if_neg (by omega),if_pos h2]
   have hfi:Bh l s.nd.id = -1:=by unfold Bh;rw[hf]
   rw[hcl,hfi];unfold addE;rw[if_neg (by decide)];by_cases h0:s.nd.kind=0
   ·rw[if_pos h0,if_pos h0];exact .inl ⟨by decide,rfl⟩
   ·rw[if_neg h0,if_neg h0];exact .inr ⟨rfl,rfl⟩
  ·rw[if_neg h2,if_neg h2]
   exact .inl ⟨by decide,rfl⟩
 |some i =>
  obtain⟨hi,hid⟩:=Fy hf;have hn:Gr.nodeOf l s.nd.id=some l[i]:=by unfold Gr.nodeOf;rw[hf,Option.bind_some,List.getElem?_eq_getElem hi]
  rw[hn];simp only[List.getElem?_eq_getElem hi];by_cases h2:s.kind=2
  ·rw[if_pos h2,if_pos h2];have hfi:Bh l s.nd.id=i:=by unfold Bh;rw[hf]
   rw[hfi];unfold addE;rw[if_pos (by omega)];exact .inl ⟨by decide,rfl⟩
  ·rw[if_neg h2,if_neg h2];unfold Kk;by_cases h1:s.kind=1
   ·have hcl:Gr.cleanS s=⟨1,⟨s.nd.id,0,[],s.nd.prog,0,Gr.zeros⟩,s.reset⟩:=by unfold Gr.cleanS;rw[if_pos h1]
    rw[hcl,if_pos h1];simp only[if_true];unfold Iq;by_cases hk1:l[i].kind≠1
    ·rw[if_pos hk1,if_pos hk1];exact .inl ⟨by decide,rfl⟩
    ·rw[if_neg hk1,if_neg hk1];by_cases hs:Vm.safe s.nd.prog=true
     ·rw[if_pos hs,if_pos hs];exact .inr ⟨rfl,by rw[←Gr.updN_set hu hi hid]⟩
     ·rw[if_neg hs,if_neg hs];exact .inl ⟨by decide,rfl⟩
   rw[if_neg h1];by_cases h3:s.kind=3
   ·have hcl:Gr.cleanS s=⟨3,⟨s.nd.id,0,[],[],0,Gr.zeros⟩,false⟩:=by unfold Gr.cleanS;rw[if_neg (by omega),if_neg (by omega),if_pos h3]
    rw[hcl,if_pos h3];simp only[show ¬((3:Int)=1) by decide,if_false,if_true];rw[A2W,hid];by_cases hq:l[i].kind=0∨(l.any fun m=>decide (s.nd.id∈m.frm))=true
    ·rw[if_pos hq,if_pos hq];exact .inl ⟨by decide,rfl⟩
    ·rw[if_neg hq,if_neg hq];exact .inr ⟨rfl,by rw[←Gr.remN_cut hu hi hid]⟩
   rw[if_neg h3];by_cases h4:s.kind=4
   ·have hcl:Gr.cleanS s=⟨4,⟨s.nd.id,0,[],[],s.nd.par,s.nd.route⟩,false⟩:=by unfold Gr.cleanS;rw[if_neg (by omega),if_neg (by omega),if_neg (by omega),if_pos h4]
    rw[hcl,if_pos h4];simp only[show ¬((4:Int)=1) by decide,show ¬((4:Int)=3) by decide,if_false,if_true];by_cases hq:l[i].kind=0
    ·rw[if_pos hq,if_pos hq];exact .inl ⟨by decide,rfl⟩
    ·rw[if_neg hq,if_neg hq];exact .inr ⟨rfl,by rw[←Gr.updN_set hu hi hid]⟩
   rw[if_neg h4];have h5:s.kind=5:=by omega
   have hcl:Gr.cleanS s=⟨5,⟨s.nd.id,0,s.nd.frm,[],0,Gr.zeros⟩,false⟩:=by unfold Gr.cleanS;rw[if_neg (by omega),if_neg (by omega),if_neg (by omega),if_neg (by omega),if_pos h5]
   rw[hcl];simp only[show ¬((5:Int)=1) by decide,show ¬((5:Int)=3) by decide,show ¬((5:Int)=4) by decide,if_false];by_cases hq:l[i].kind≠2
   ·rw[if_pos hq,if_pos hq];exact .inl ⟨by decide,rfl⟩
   ·rw[if_neg hq,if_neg hq];exact .inr ⟨rfl,by rw[←Gr.updN_set hu hi hid]⟩
theorem A4r(w0 W:World)(B b n cap i:Nat)(lc:List BM)(l:List Gr.Nd)(st:Bw)(s:Gr.Stp)(h:Cu w0 W B (.slice (some ⟨b,0,none⟩) n cap) lc l st s (i:Int))(hi:i<l.length)(hl:l.length≤100)(hkd:s.kind=4): Calls Tryz.prog 140 #[.pointer (some ⟨B,0,none⟩)] W (Ip w0 B st s (i:Int) (Kk l i l[i] s) W):=by
 have hlen:=BL.len h.inn;have hic:i<lc.length:=by omega
 have hsk:=h.stp.kind;obtain⟨c,hc⟩:∃c,lc[i]? = some c:=⟨_,List.getElem?_eq_getElem hic⟩;obtain⟨hni,hno⟩:=BL.get h.inn i c l[i] hc (List.getElem?_eq_getElem hi);have hnk:=hni.kind;have hnid:=hni.id;have H:=hY h;have HC:=hY hc;have HNI:=hY hni;have HNO:=hY hno;obtain⟨hnl,hbb,hlc2,hcm,cur,hcur,_,_⟩:=OwnAt.cells h.own;have hni2:(i:Int)<(n:Int):=by omega
 have hi0:¬((i:Int)<0):=by omega
 have pBn:∀q,Ad B (W.drewN q):=fun q=>Ad.mk (AB h.blk)
 have pbn:∀q,Ad b (W.drewN q):=fun q=>Ad.mk (AB hcur)
 have hwr:IntKind.i64.wrap ((i:Int)+1)=(i:Int)+1:=IntWalk.i64_in _ (by omega);have pb:=Ad.mk (AB hcur);have HCUR:=hY hcur;have HBB:=hY hbb;have HNL:Hid (n=lc.length∧i<lc.length∧lc.length≤100∧lc.length=l.length):=hY ⟨hnl,hic,by omega,hlen⟩;have k0:=Av (j:=0) h.own hc (by decide);have k1:=Av (j:=1) h.own hc (by decide);simp[Ae] at k0 k1;have x0:=cell_of (o:=0) h.blk;have x1:=cell_of (o:=1) h.blk;have x6:=cell_of (o:=6) h.blk;have x7:=cell_of (o:=7) h.blk;have x8:=cell_of (o:=8) h.blk;have x9:=cell_of (o:=9) h.blk;have x10:=cell_of (o:=10) h.blk;have x11:=cell_of (o:=11) h.blk;have x12:=cell_of (o:=12) h.blk;have x13:=cell_of (o:=13) h.blk;have x14:=cell_of (o:=14) h.blk;have x16:=cell_of (o:=16) h.blk;have pB:=Ad.mk (AB h.blk);obtain⟨kd,⟨id,kind,af,nf,cf,ap,np,cp,par,r0,r1,r2,r3,r4,r5,r6,r7⟩,rs⟩:=st;simp[RS,CS] at x0 x1 x6 x7 x8 x9 x10 x11 x12 x13 x14 x16;simp only at hsk;rw[hsk] at hkd;subst hkd;have he:Kk l i l[i] s=if l[i].kind=0 then (11,[]) else (0,l.set i { l[i] with par:=s.nd.par,route:=s.nd.route }):=by unfold Kk;rw[if_neg (by omega),if_neg (by omega),if_pos hsk]
 rw[he];clear he;by_cases h2:l[i].kind=0
 ·rw[if_pos h2];have hne:(c.kind==0)=true:=by rw[←hnk,h2];rfl
  clear h hlen hic hc hni hno hcur hbb hnl hlc2 hcm h2 hnk hnid;go_enter Tryz.func140,Tryz.ntmps140
  go_upto_region 3 with fail
  go_quiet (fail)
  go_wp2;go_ret;exact⟨rfl,fun q=>absurd q (by decide),H.o.g.trans gw⟩
 ·rw[if_neg h2];have hne:(c.kind==0)=false:=by rw[←hnk];simpa using h2
  have f4:=AJ (o:=i*13+4) hcur;have k4:=Av (j:=4) h.own hc (by decide);have f5:=AJ (o:=i*13+5) hcur;have k5:=Av (j:=5) h.own hc (by decide);have f6:=AJ (o:=i*13+6) hcur;have k6:=Av (j:=6) h.own hc (by decide);have f7:=AJ (o:=i*13+7) hcur;have k7:=Av (j:=7) h.own hc (by decide);have f8:=AJ (o:=i*13+8) hcur;have k8:=Av (j:=8) h.own hc (by decide);have f9:=AJ (o:=i*13+9) hcur;have k9:=Av (j:=9) h.own hc (by decide);have f10:=AJ (o:=i*13+10) hcur;have k10:=Av (j:=10) h.own hc (by decide);have f11:=AJ (o:=i*13+11) hcur;have k11:=Av (j:=11) h.own hc (by decide);have f12:=AJ (o:=i*13+12) hcur;have k12:=Av (j:=12) h.own hc (by decide);simp[Ae] at k4 k5 k6 k7 k8 k9 k10 k11 k12;have hw:=fun W2 (q:AA W W2)=>(h.grew q).set4 hc hi
  simp only at hw;have HW:=hY hw;clear h hlen hic hc hni hno hcur hbb hnl hlc2 hcm h2 hnk hnid hw;go_enter Tryz.func140,Tryz.ntmps140
  go_upto_region 3 with fail
  go_quiet (fail)
  go_upto_region 17 with fail
  refine wp_region_noPanic ?_
  go_region_law (fail)
  all_goals
   refine NoPanic.normal ?_;go_wp2;go_ret;refine⟨rfl,?_,?_⟩
   ·intro _;exact⟨_,_,HW.o _ gw⟩
   ·exact(HW.o _ gw).g
end Go.Proofs.YtgebkpgilgppgaaGreat
