import Derived.Test.YtgebkpgilgppgaaGreatMw44
import Derived.Test.YtgebkpgilgppgaaGreatMw37
import Derived.Test.YtgebkpgilgppgaaGreatMw9
import Derived.Test.YtgebkpgilgppgaaGreatMw0
set_option linter.unusedSimpArgs false
set_option linter.unusedVariables false
set_option maxRecDepth 100000
set_option maxHeartbeats 64000000
namespace Go.Proofs.YtgebkpgilgppgaaGreat
open Go.RowKit Ga
theorem Qz{u:World}{k:Nat}{l9:List Gr.Nd}{p:List Gr.Stp}{t:Nat}{f:CR}{w0 w w':World}{e:Ending}(h:Iy u ((0,k,l9):Int×Nat×List Gr.Nd) p t f w0 w e w'): AA w0 w'∧A7 t w w'∧∃v,e = .returned (.tuple #[v,.int .i64 0])∧BC u w' v l9∧RTabAt w' t (GY f p):=by
 obtain⟨g,hk,⟨h1,-⟩|⟨-,v,he,h2,-,h3⟩⟩:=h
 ·exact absurd rfl h1
 ·exact⟨g,hk,v,he,h2,h3⟩
theorem TQ{u:World}{r:Int×Nat×List Gr.Nd}{p:List Gr.Stp}{t:Nat}{f:CR}{w0 w w':World}{e:Ending}(hr:r.1≠0)(h:Iy u r p t f w0 w e w'): e = .returned (.tuple #[.slice none 0 0,.int .i64 r.1])∧AA w0 w':=by
 obtain⟨g,hk,⟨-,h2⟩|⟨h1,-⟩⟩:=h
 ·exact⟨h2,g⟩
 ·exact absurd h1 hr
theorem Vd{chk:List Gr.Nd→Int}{l:List Gr.Nd}{s:Gr.Stp}(h:(Gr.stepE chk l s).1=0): 1≤s.kind∧s.kind≤5:=by
 unfold Gr.stepE at h;split at h
 ·cases h
 ·split at h
  ·cases h
  ·omega
theorem MU{chk:List Gr.Nd→Int}: ∀(p:List Gr.Stp) {l:List Gr.Nd} (i:Nat),(Gr.stepsE chk l p i).1=0→∀s∈p,1≤s.kind∧s.kind≤5
 | [],_,_,_=>fun s hs=>by cases hs
 |s::p,l,i,h=>by
  unfold Gr.stepsE at h;by_cases he:(Gr.stepE chk l s).1≠0
  ·rw[if_pos he] at h;exact absurd h he
  ·rw[if_neg he] at h;intro x hx;rcases List.mem_cons.1 hx with rfl|hx
   ·exact Vd (by simpa using he)
   ·exact MU p (i+1) h x hx
theorem TR{chk:List Gr.Nd→Int}{l:List Gr.Nd}{p:List Gr.Stp}(h:(Gr.applyE chk l p).1=0): ∀s∈p,1≤s.kind∧s.kind≤5:=by
 unfold Gr.applyE at h;split at h
 ·cases h
 ·split at h
  ·cases h
  ·exact MU p 0 h
theorem Kb{u W W':World}{v:Value}{l:List Gr.Nd}{N:Nat}{cs:Array Value}{t:TypeId}(h:BC u W v l)(hk:A7 N W W')(hb:W.heap[N]? = some (.cells cs t))(h7:cs.size=7:=by rfl): BC u W' v l:=by
 obtain⟨lc,h1,h2⟩:=h;exact⟨lc,Vh h1 hk hb h7 (by decide) AZ,h2⟩
theorem A3l{W:World}{c c':Bw}{a0 a1 a2 a3 a4 a5 a6 a7 a8 a9 a10 a11 a12 a13 a14:Addr}(h0:W.cell? a0=some (.int .i64 c.kind))(h1:W.cell? a1=some (.int .i64 c.c.id))(h2:W.cell? a2=some (.int .i64 c.c.kind))(h3:W.cell? a3=some (.slice c.c.af c.c.nf c.c.cf))(h4:W.cell? a4=some (.slice c.c.ap c.c.np c.c.cp))(h5:W.cell? a5=some (.int .i64 c.c.par))(h6:W.cell? a6=some (.int .i64 c.c.r0))(h7:W.cell? a7=some (.int .i64 c.c.r1))(h8:W.cell? a8=some (.int .i64 c.c.r2))(h9:W.cell? a9=some (.int .i64 c.c.r3))(h10:W.cell? a10=some (.int .i64 c.c.r4))(h11:W.cell? a11=some (.int .i64 c.c.r5))(h12:W.cell? a12=some (.int .i64 c.c.r6))(h13:W.cell? a13=some (.int .i64 c.c.r7))(h14:W.cell? a14=some (.bool c.reset))(h0':W.cell? a0=some (.int .i64 c'.kind))(h1':W.cell? a1=some (.int .i64 c'.c.id))(h2':W.cell? a2=some (.int .i64 c'.c.kind))(h3':W.cell? a3=some (.slice c'.c.af c'.c.nf c'.c.cf))(h4':W.cell? a4=some (.slice c'.c.ap c'.c.np c'.c.cp))(h5':W.cell? a5=some (.int .i64 c'.c.par))(h6':W.cell? a6=some (.int .i64 c'.c.r0))(h7':W.cell? a7=some (.int .i64 c'.c.r1))(h8':W.cell? a8=some (.int .i64 c'.c.r2))(h9':W.cell? a9=some (.int .i64 c'.c.r3))(h10':W.cell? a10=some (.int .i64 c'.c.r4))(h11':W.cell? a11=some (.int .i64 c'.c.r5))(h12':W.cell? a12=some (.int .i64 c'.c.r6))(h13':W.cell? a13=some (.int .i64 c'.c.r7))(h14':W.cell? a14=some (.bool c'.reset)): c=c':=by
 obtain⟨k,⟨i1,i2,i3,i4,i5,i6,i7,i8,i9,i10,i11,i12,i13,i14,i15,i16,i17⟩,i18⟩:=c;obtain⟨k',⟨j1,j2,j3,j4,j5,j6,j7,j8,j9,j10,j11,j12,j13,j14,j15,j16,j17⟩,j18⟩:=c';simp only at h0 h0' h1 h1' h2 h2' h3 h3' h4 h4' h5 h5' h6 h6' h7 h7' h8 h8' h9 h9' h10 h10' h11 h11' h12 h12' h13 h13' h14 h14';rw[h0] at h0';rw[h1] at h1';rw[h2] at h2';rw[h3] at h3';rw[h4] at h4';rw[h5] at h5';rw[h6] at h6';rw[h7] at h7';rw[h8] at h8';rw[h9] at h9';rw[h10] at h10';rw[h11] at h11';rw[h12] at h12';rw[h13] at h13';rw[h14] at h14';simp at h0' h1' h2' h3' h4' h5' h6' h7' h8' h9' h10' h11' h12' h13' h14';obtain⟨rfl,rfl,rfl⟩:=h3';obtain⟨rfl,rfl,rfl⟩:=h4';subst h0' h1' h2' h5' h6' h7' h8' h9' h10' h11' h12' h13' h14';rfl
theorem A2L(w W2 W:World)(av:Option Addr)(cv:Nat)(g:List Gr.Nd)(ce:Option Addr)(cE:Nat)(cl:Option Addr)(cL:Nat)(cp:Option Addr)(cP:Nat)(wh:Wh)(x b P:Nat)(a5:Option Addr)(c5:Nat)(a6:Option Addr)(c6:Nat)(lc:List CV)(Q:Exit→Act→World→Prop)(a0:Act)(B:Nat)(c':Dy)(code:Int)(t:Nat)(f:CR)
  (hA:JZ w av cv g ce cE cl cL cp cP wh) (hB:Ck w W2 av cv g ce cE cl cL cp cP wh x b P a5 c5 a6 c6 lc.length (Cq lc)) (hC:DF W2 (Gr.normG g) (Cq lc) (ET (Gr.normG g) wh)) (hl:lc.length=(Af (Gr.normG g)).length) (hl9:lc.length≤24) (hG:AA W2 W) (hF:Js w x P av cv g a0) (h18:a0.tmps.getD 18 undef = .pointer (some ⟨B,0,none⟩)) (h19:a0.tmps.getD 19 undef = .int .i64 code) (h20:a0.tmps.getD 20 undef = .pointer (some ⟨t,0,none⟩)) (hb:W2.heap[B]? = some (.cells (JK c').toArray 42)) (hres:Kc W2 g wh c' code) (hok:CG (EH (Ak g wh 8))=true) (ht:W2.heap.size≤t) (hT:RTabAt W t f) (hrel:Dt (Tab.newT (EH (Ak g wh 8))) f)
  (hret:∀a' w',Ow w a' w'→Q .ret a' w')
  (hnext:∀a' w' Wp N v25 l25 vP lcP f',AA W2 w'→Js w x P av cv g a'→a'.tmps.getD 18 undef = .pointer (some ⟨B,0,none⟩)→a'.tmps.getD 19 undef = .int .i64 code→a'.tmps.getD 20 undef = .pointer (some ⟨t,0,none⟩)→a'.tmps.getD 25 undef=v25→a'.tmps.getD 26 undef = .pointer (some ⟨N,0,none⟩)→RTabAt w' t f'→Dt (Gc (Tab.newT (EH (Ak g wh 8))) wh.plan) f'→(rP g wh).1=0→l25.Perm (rP g wh).2.2→BC w w' v25 l25→Want W2 Wp w' N #[.int .i64 9,.int .i64 (if wh.plan=[] then 0 else 1),.slice none 0 0,.slice none 0 0,.slice none 0 0,.slice none 0 0,vP]→Ep W2 Wp 66 15 CS w' vP lcP→BL (Ai w) lcP (wh.plan.map Gr.cleanS)→Wp.heap.size≤w'.heap.size→N≠t→Code.wp Tryz.prog (FO 52) Q a' w') :
  Code.wp Tryz.prog (FO 39) Q a0 W:=by
 obtain⟨hfr,h0,h4,h7,h9⟩:=hF;obtain⟨u,hu⟩:∃u:Nat→Value,u=fun i=>a0.tmps.getD i undef:=⟨_,rfl⟩
 rw[←hu] at hfr;have u0:u 0=_:=(congrFun hu 0).trans h0;have u4:u 4=_:=(congrFun hu 4).trans h4;have u7:u 7=_:=(congrFun hu 7).trans h7;have u9:u 9=_:=(congrFun hu 9).trans h9;have u18:u 18=_:=(congrFun hu 18).trans h18;have u19:u 19=_:=(congrFun hu 19).trans h19;have u20:u 20=_:=(congrFun hu 20).trans h20;clear hu h0 h4 h7 h9 h18 h19 h20;subst hfr
 conv=>arg 2;whnf
 unfold Ii;rw[u0,u4,u7,u9,u18,u19,u20];clear u0 u4 u7 u9 u18 u19 u20;have HRES:=hY hres;have HOK:=hY hok;have HBB:=hY hb;clear hres hok hb;have HA:=hY hA;have HB:=hY (hB.grew hG);have HB2:=hY hB;have HC:=hY hC;have HL:=hY hl;have HG:=hY hG;have HRET:=hY hret;have HNX:=hY hnext;clear hA hB hC hret hnext hG hl;have HT:=hY hT;have HLT:=hY ht;have HREL:=hY hrel;have hgp:(Gr.normG g).Perm g:=Gr.normG_perm HA.o.r.ids HA.o.r.r7;have HPR:=hY (VO hgp wh.plan);clear hT hrel ht hgp;have b0:=cell_of (o:=0) (W:=W) HB.o.wb;have b1:=cell_of (o:=1) (W:=W) HB.o.wb;have b2:=cell_of (o:=2) (W:=W) HB.o.wb;have b3:=cell_of (o:=3) (W:=W) HB.o.wb;have b4:=cell_of (o:=4) (W:=W) HB.o.wb;have b5:=cell_of (o:=5) (W:=W) HB.o.wb;simp at b0 b1 b2 b3 b4 b5;have pbw:=Ad.mk (W:=W) (AB HB.o.wb);have HN0:Hid (BC w w (.slice av g.length cv) g):=hY (TN HA.o.hv);by_cases hp0:wh.plan=[]
 case pos =>
  have hr0:(rP g wh).1=0∧g.Perm (rP g wh).2.2:=by
   unfold rP FN;rw[if_pos hp0];exact⟨rfl,(Gr.normG_perm HA.o.r.ids HA.o.r.r7).symm⟩
  have hd:decide ((0:Int)<(wh.plan.length:Int))=false:=by rw[hp0];rfl
  simp only[hp0,List.length_nil] at b5;have HP0:=hY hp0;have HR0:=hY hr0;clear hp0 hr0
  go_upto_if 191 with fail
  iterate 4 go_step
  refine HNX.o _ _ _ W.heap.size (.slice av g.length cv) g _ [] f (HG.o.trans gw) ?_ ?_ ?_ ?_ ?_ ?_ ?_ ?_ HR0.o.1 HR0.o.2 ?_ ⟨HG.o.trans gw,AA.le HG.o,A7.ofGrew (AA.refl _),?_⟩ Ep.nil ?_ (Nat.le_refl _) ?_
  ·exact⟨rfl,rfl,rfl,rfl,rfl⟩
  ·rfl
  ·rfl
  ·rfl
  ·rfl
  ·rfl
  ·exact HT.o.grew gw
  ·rw[HP0.o];exact HREL.o
  ·exact BC.grew HN0.o (HB.o.gr.trans gw)
  ·rw[if_pos HP0.o];exact AC gw (AO W (.cells #[.int .i64 9,.int .i64 0,.slice none 0 0,.slice none 0 0,.slice none 0 0,.slice none 0 0,.slice none 0 0] 42) _ rfl)
  ·rw[HP0.o];trivial
  ·exact fun e=>absurd HT.o.lt (by omega)
 have hd:(0:Int)<(wh.plan.length:Int):=by have:=List.length_pos_iff.2 hp0;omega
 obtain⟨r,hr⟩:∃r,Gr.applyE AP g wh.plan=r:=⟨_,rfl⟩
 have hrp:(rP g wh).1=r.1∧(rP g wh).2.2.Perm r.2.2:=by
  have h1:=HPR.o;unfold FN at h1;rw[if_neg hp0,if_neg hp0,hr] at h1;unfold rP FN;rw[if_neg hp0];exact h1
 have HRP:=hY fun W3 (q:AA W W3)=>PD w _ (.slice cp wh.plan.length cP) g wh.plan t f W2 W3 (HB.o.gr.trans q) (Nat.le_trans (AA.le HB2.o.gr) HLT.o) (BC.grew HN0.o (HB.o.gr.trans q)) HA.o.cap HA.o.whi.p (HT.o.grew q) (HG.o.trans q) HLT.o
 rw[hr] at HRP;have HRR:=hY hr;have HP0:=hY hp0;have HRE:=hY hrp;have hWt:=HT.o.lt;have hW2:=AA.le HG.o;have hbx:w.heap.size<W2.heap.size:=AB HB2.o.wb;have hnb:¬(W.heap.size=w.heap.size):=by omega
 have hnb2:¬(w.heap.size=W.heap.size):=by omega
 clear hp0 hr hrp;obtain⟨r1,r2,l9⟩:=r;by_cases hr0:r1=0
 case neg =>
  have hcode:=HRES.o.err HOK.o (by rw[HRE.o.1];exact hr0);rw[HRE.o.1] at hcode;simp only at hcode;subst hcode;have HRP2:=hY fun W3 (q:AA W W3)=>(HRP.o W3 q).mono fun e w' h=>(TQ (r:=(code,r2,l9)) hr0 h)
  simp only at HRP2;have hb9:(code != 0)=true:=by rw[bne_iff_ne];exact hr0
  clear HRP hr0
  go_wp2_with (go_at_call 14;((with_reducible refine Calls.mono (HRP2.o _ ?_) ?_));(focus(exact gw));rintro e5 w5 ⟨rfl,hg5⟩;(have HG5:=hY hg5);clear hg5)
  exact HRET.o _ _ ⟨rfl,rfl,HB2.o.gr.trans (HG5.o.trans gw)⟩
 subst hr0;have HKD:=hY (TR (l:=g) (p:=wh.plan) (by rw[HRR.o]));have HRP2:=hY fun W3 (q:AA W W3)=>(HRP.o W3 q).mono fun e w' h=>Qz h
 clear HRP
 go_wp2_with (go_at_call 14;((with_reducible refine Calls.mono (HRP2.o _ ?_) ?_));(focus(exact gw));go_loud (rintro e5 w5 ⟨hg5,hk5,v25,rfl,hn5,hT5⟩;(have hN5:w5.heap[W.heap.size]? = some (.cells #[.int .i64 9,.int .i64 0,.slice none 0 0,.slice none 0 0,.slice none 0 0,.slice none 0 0,.slice none 0 0] 42):=(hk5.2 W.heap.size (by simp[go_sem]) (by omega)).trans (AC gw (AO W (.cells #[.int .i64 9,.int .i64 0,.slice none 0 0,.slice none 0 0,.slice none 0 0,.slice none 0 0,.slice none 0 0] 42) _ rfl)));(have m1:w5.cell? ⟨W.heap.size,1,none⟩=some (.int .i64 0):=(cell_of hN5).trans rfl);(have bx5:w5.cell? ⟨w.heap.size,5,none⟩=some (.slice cp wh.plan.length cP):=(cell_of (AC hg5 HB2.o.wb)).trans rfl);(have pc5:=Ad.mk (AB (AC hg5 HB2.o.wb)));(have f1':=AJ (o:=1) hN5);(have pN5:=Ad.mk (AB hN5));(have HN5:=hY hN5);(have HG5:=hY hg5);(have HNU:=hY hn5);(have HT5:=hY hT5);(have HB5:=hY (AC hg5 HB2.o.wb));clear hg5 hk5 hn5 hT5 hN5))
 have HW0:Hid (Want W2 w5 (w5.setCell ⟨W.heap.size,1,none⟩ (.int .i64 1)) W.heap.size #[.int .i64 9,.int .i64 1,.slice none 0 0,.slice none 0 0,.slice none 0 0,.slice none 0 0,.slice none 0 0]):=hY ⟨HG5.o.set hW2 _,hW2,⟨by rw[World.size_setCell];exact Nat.le_refl _,fun q _ hn=>AQ fun e=>hn e.symm⟩,by rw[set_self HN5.o];rfl⟩
 go_loopg [209] wh.plan.length (fun gg s209 wr=>∃(k:Nat) (vP:Value) (lcP:List Bw),k≤wh.plan.length∧wh.plan.length-k≤gg∧s209 = .int .i64 (k:Int)∧Hid (Want W2 w5 wr W.heap.size #[.int .i64 9,.int .i64 1,.slice none 0 0,.slice none 0 0,.slice none 0 0,.slice none 0 0,vP])∧Hid (Ep W2 w5 66 15 CS wr vP lcP)∧Hid (BL (Ai w) lcP ((wh.plan.take k).map Gr.cleanS)))
 case atStart=>exact⟨0,_,[],by omega,by omega,rfl,hY (HW0.o.grew gw),hY Ep.nil,hY trivial⟩
 case round =>
  obtain⟨k,vP,lcP,hk,hgg,rfl,HW,HO,HR⟩:=hrel;rename World=>wa;obtain⟨a7,c7s,rfl⟩:=(OwnAt.rows HO.o.1 Cb).len;by_cases hlt:k<wh.plan.length
  ·obtain⟨a',cap',e,-,hx⟩:=(HA.o.whi.p.grew (HB2.o.gr.trans HW.o.g)).openC;cases e;obtain⟨bq,off,c,rfl,hbq,hn,c0,c1,c2,c3,c4,c5,c6,c7,c8,c9,c10,c11,c12,c13,c14⟩:=hx k hlt;obtain⟨a',cap',e,-,hx0⟩:=HA.o.whi.p.openC;cases e;obtain⟨bq',off',c',ha',hbq',hn',g0,g1,g2,g3,g4,g5,g6,g7,g8,g9,g10,g11,g12,g13,g14⟩:=hx0 k hlt;have hsame:=HB2.o.gr.trans HW.o.g;cases ha';have hcc:c=c':=A3l c0 c1 c2 c3 c4 c5 c6 c7 c8 c9 c10 c11 c12 c13 c14 (BD hsame g0) (BD hsame g1) (BD hsame g2) (BD hsame g3) (BD hsame g4) (BD hsame g5) (BD hsame g6) (BD hsame g7) (BD hsame g8) (BD hsame g9) (BD hsame g10) (BD hsame g11) (BD hsame g12) (BD hsame g13) (BD hsame g14);subst hcc;have hkd:=HKD.o _ (List.getElem_mem hlt);rw[hn.kind] at hkd;have HCL:=hY fun W3=>IK c W3 hkd
   have HCI:=hY hn'.clean;have HTK:Hid ((wh.plan.take (k+1)).map Gr.cleanS=(wh.plan.take k).map Gr.cleanS++[Gr.cleanS wh.plan[k]]):=hY (by rw[List.take_succ_eq_append_getElem hlt,List.map_append];rfl);have hll:=BL.len HR.o;rw[List.length_map,List.length_take] at hll;have hpl20:=HA.o.pl;have hlc:lcP.length≤100:=by omega
   have m6:wa.cell? ⟨W.heap.size,6,none⟩=some (.slice a7 lcP.length c7s):=(cell_of HW.o.b).trans rfl;have pm6:=Ad.mk (AB HW.o.b);generalize Bl c=cc at *;obtain⟨kd,⟨id,kind,af,nf,cf,apr,np,cpr,par,r0,q1,q2,q3,q4,q5,q6,q7⟩,rs⟩:=c;obtain⟨kd9,⟨id9,kind9,af9,nf9,cf9,apr9,np9,cpr9,par9,r09,q19,q29,q39,q49,q59,q69,q79⟩,rs9⟩:=cc;simp only at c0 c1 c2 c3 c4 c5 c6 c7 c8 c9 c10 c11 c12 c13 c14 HCL;clear hx hx0 hn hn' g0 g1 g2 g3 g4 g5 g6 g7 g8 g9 g10 g11 g12 g13 g14 hll hsame hbq' hkd
   go_upto_region 50 with fail
   refine wp_region_noPanic ?_
   go_region_law (first
    | (go_simp;go_at_call 15;((with_reducible refine Calls.mono (HCL.o _) ?_));rintro e6 w6 ⟨rfl,R6,n6,rfl⟩)
    | (refine JL (w0:=W2) (v:=.slice a7 lcP.length c7s) rfl (.tmp 214) (.tmp 217) 26 _ _ _ _ [⟨kd9,⟨id9,kind9,af9,nf9,cf9,apr9,np9,cpr9,par9,r09,q19,q29,q39,q49,q59,q69,q79⟩,rs9⟩] rfl Tryz.underlying26 Km rfl (by decide) Cb JO rfl (OwnAt.grew HO.o.1 gw) (HW.o.g.trans gw) rfl (XL _ _ _ _ rfl (by first|rfl|simp[go_sem])) (by simp;omega) (by decide) (by simp) ?_;intro v8 W8 hA;(obtain⟨a8,c8,hv8⟩:=(OwnAt.rows hA.2.1 Cb).len);(obtain⟨n8,hn8⟩:∃n8,(lcP++([⟨kd9,⟨id9,kind9,af9,nf9,cf9,apr9,np9,cpr9,par9,r09,q19,q29,q39,q49,q59,q69,q79⟩,rs9⟩]:List Bw)).length=n8:=⟨_,rfl⟩);(rw[hn8] at hv8);(subst hv8);(clear hn8);(have hM8:=Cn (OwnAt.grew HO.o.1 gw) (AC gw HW.o.b) (by decide) hA);(obtain⟨u8,hu8⟩:∃u,W8.cell? ⟨W.heap.size,6,none⟩=some u:=⟨_,(cell_of hM8).trans rfl⟩);(have f8:=AJ (o:=6) hM8);(have p8:=Ad.mk (AB hM8));(have HA8:=hY hA);clear hA hM8))
   all_goals
    refine NoPanic.normal ?_;go_wp2
    go_roundg (wh.plan.length-(k+1))
    case measure=>omega
    case rel =>
     obtain⟨Wq,hA9,hWq⟩:∃Wq,Ap W2 66 15 CS Wq (.slice a7 lcP.length c7s) (lcP++[⟨kd9,⟨id9,kind9,af9,nf9,cf9,apr9,np9,cpr9,par9,r09,q19,q29,q39,q49,q59,q69,q79⟩,rs9⟩]) (.slice a8 n8 c8) W8∧AA wa Wq:=⟨_,HA8.o,gw⟩;obtain⟨j1,j2⟩:=Want.add (o:=6) (HW.o.grew hWq) (HO.o.grew hWq) (by decide) (Nat.le_trans HW.o.k.1 (AA.le hWq)) hA9;exact⟨k+1,_,_,by omega,by omega,by go_num,hY j1,hY j2,hY (by rw[HTK.o];exact BL.snoc HR.o HCI.o)⟩
  ·obtain rfl:k=wh.plan.length:=by omega
   have hR:=HR.o;rw[List.take_length] at hR;have HR9:=hY hR;clear hR
   go_upto_if 210 with fail
   iterate 4 go_step
   refine HNX.o _ _ w5 W.heap.size v25 l9 _ lcP (GY f wh.plan) (HW.o.g.trans gw) ?_ ?_ ?_ ?_ ?_ ?_ ?_ ?_ (by rw[HRE.o.1]) HRE.o.2.symm ?_ ?_ (HO.o.grew gw) HR9.o ?_ (fun e=>absurd hWt (by omega))
   ·exact⟨rfl,rfl,rfl,rfl,rfl⟩
   ·rfl
   ·rfl
   ·rfl
   ·rfl
   ·rfl
   ·exact RTabAt.grew (RTabAt.same HT5.o (HW.o.k.2 t HT5.o.lt (by omega))) gw
   ·exact Dt.rems (GI.new HOK.o) HREL.o wh.plan
   ·exact BC.grew (Kb HNU.o HW.o.k HN5.o) gw
   ·rw[if_neg HP0.o];exact HW.o.grew gw
   ·exact Nat.le_trans HW.o.k.1 (AA.le gw)
end Go.Proofs.YtgebkpgilgppgaaGreat
