import Derived.Test.YtipgfjihdglocaaGreatCq18
import Derived.Test.YtipgfjihdglocaaGreatCq14
import Derived.Test.YtipgfjihdglocaaGreatCq19
import Derived.Test.YtipgfjihdglocaaGreatCq5
import Derived.Test.YtipgfjihdglocaaGreatCq20
set_option linter.unusedSimpArgs false
set_option linter.unusedVariables false
set_option maxRecDepth 100000
set_option maxHeartbeats 64000000
namespace Go.Proofs.YtipgfjihdglocaaGreat
open Go.RowKit Ga
theorem clean49_2(id kd par r0 r1 r2 r3 r4 r5 r6 r7:Int)(af ap:Option Addr)(nf cf np cp:Nat)(reset:Bool)(s:Gr.Stp)(w:World)(hn:StepIs w ⟨2,⟨id,kd,af,nf,cf,ap,np,cp,par,r0,r1,r2,r3,r4,r5,r6,r7⟩,reset⟩ s)(hs:s.nd.frm.length≤1000∧s.nd.prog.length≤1000): Calls Tryz.prog 105 #[.agg #[.int .i64 2,.int .i64 id,.int .i64 kd,.slice af nf cf,.slice ap np cp,.int .i64 par,.int .i64 r0,.int .i64 r1,.int .i64 r2,.int .i64 r3,.int .i64 r4,.int .i64 r5,.int .i64 r6,.int .i64 r7,.bool reset]] w (CleanGives (Gr.cleanS s) w):=by
 have hcl:=hn.clean;have HCL:=hY hcl;have HN:=hY hn;have H1:=hY fun W (g:Grew w W)=>cloneInts_any _ s.nd.frm W (HN.o.nd.f.grew g) hs.1
 have H2:=hY fun W (g:Grew w W)=>cloneVals_any _ s.nd.prog W (HN.o.nd.p.grew g) hs.2
 have HND:=hY hn.nd;have HS:=hY hs;have HK:=hY hn.kind;clear hn hcl hs;go_enter Tryz.func105,Tryz.ntmps105
 go_wp2_with (go_at_call 55;refine(norm_one _ s.nd _ (NodesAt.one (HND.o.grew gw) _ (by simp[World.size_alloc]) _ rfl) HS.o).mono ?_;rintro e w1 ⟨b,cap,c,rfl,hb,hn1,ho1,hg1,k0,k1,k2,k3,k4,k5,k6,k7,k8,k9,k10,k11,k12⟩;obtain⟨q0,q1,qa,qc,qp,qq,q2,q3,q4,q5,q6,q7,q8,q9,q10,rfl⟩:=hn1.lit;simp only at k0 k1 k2 k3 k4 k5 k6 k7 k8 k9 k10 k11 k12;(have HN1:=hY hn1);(have HO1:=hY ho1);obtain⟨R1,n1,rfl⟩:=hg1;clear hn1 ho1)
 refine bodyPost_ret (res_clean49 rfl (grew_heap ((Grew.refl _).more _ _) (heap_alloc' (heap_alloc' (heap_alloc' (heap_new_at (w.alloc _) _ _ (by simp[World.size_alloc])) _) _) _))) rfl ?_;refine clean_made2 (c:=⟨q0,q1,qa,s.nd.frm.length,qc,qp,s.nd.prog.length,qq,q2,q3,q4,q5,q6,q7,q8,q9,q10⟩) HK.o ?_ ?_ ?_
 ·exact OwnsNd.is (OwnsNd.to HO1.o (fun b hb _=>heap_more_same (by simp[World.size_alloc]) _ _ _ hb)) HN1.o
 ·exact OwnsNd.low (OwnsNd.to HO1.o (fun b hb _=>heap_more_same (by simp[World.size_alloc]) _ _ _ hb)) (by simp[World.size_alloc];omega)
 ·exact gw
theorem pairS_eq{α β:Type}{ra:Gr.Rs→α×Gr.Rs}{rb:Gr.Rs→β×Gr.Rs}{s t u:Gr.Rs}{x:α}{y:β}(h1:ra s=(x,t))(h2:rb t=(y,u)): Gr.pairS ra rb s=((x,y),u):=by
 unfold Gr.pairS;rw[h1];simp only;rw[h2]
theorem valS_eq{s t u:Gr.Rs}{x y:Int}(h1:Gr.numS (-2147483648) 2147483647 s=(x,t))(h2:Gr.numS (-2147483648) 2147483647 t=(y,u)): Gr.valS s=((x,y),u):=pairS_eq h1 h2
theorem valS_len(s:Gr.Rs): (Gr.valS s).2.1.length≤s.1.length:=by
 have h1:=numS_len (-2147483648) 2147483647 s;have h2:=numS_len (-2147483648) 2147483647 (Gr.numS (-2147483648) 2147483647 s).2;exact Nat.le_trans h2 h1
theorem rdVal_any(w0:World)(A B:Nat)(s:Gr.Rs)(W:World)(h:RdAt w0.heap.size A B W s)(hg:Grew w0 W)(hs:s.1.length≤1000000):
  Calls Tryz.prog 101 #[.pointer (some ⟨A,0,none⟩)] W (RdPost w0 W A B (.agg #[.int .i64 (Gr.valS s).1.1,.int .i64 (Gr.valS s).1.2]) (Gr.valS s).2):=by
 have n1:=fun W h g=>rdNum_any w0 A B s (-2147483648) 2147483647 W h g hs
 have z1:=numS_len (-2147483648) 2147483647 s;obtain⟨x,sa,e1⟩:∃x t,Gr.numS (-2147483648) 2147483647 s=(x,t):=⟨_,_,rfl⟩;rw[e1] at n1 z1;simp only at z1;have n2:=fun W h g=>rdNum_any w0 A B sa (-2147483648) 2147483647 W h g (by omega)
 obtain⟨y,sb,e2⟩:∃x t,Gr.numS (-2147483648) 2147483647 sa=(x,t):=⟨_,_,rfl⟩;rw[e2] at n2;rw[valS_eq e1 e2];simp only at n1 n2 ⊢;have N1:=hY n1;have N2:=hY n2;have H:=hY h;have HG:=hY hg;have hAl:=heap_lt h.2.1;have hBl:=heap_lt h.2.2.2;have hWl:=hg.below.size;clear n1 n2 e1 e2 h hg;go_enter Tryz.func101,Tryz.ntmps101;have H5:=hY (heap_new_at W (.cells #[.int .i64 0,.int .i64 0] 112) _ rfl)
 go_wp2_with fail
 refine(N1.out _ (H.o.grew gw) (HG.o.trans gw)).mono ?_;rintro e W1 ⟨rfl,r1,g1,k1⟩;have R1:=hY r1;have G1:=hY g1;have K1:=hY k1;clear r1 g1 k1
 go_wp2_with fail
 refine(N2.out _ R1.out G1.out).mono ?_;rintro e W2 ⟨rfl,r2,g2,k2⟩;have R2:=hY r2;have G2:=hY g2;have K2:=hY (K1.out.trans k2);clear r2 g2 k2;have h5:=K2.out.2 W.heap.size (by rw[World.size_alloc];omega) (by omega) (by omega);rw[H5.o] at h5;have q0:=cell_of (o:=0) h5;have f0:=frozen_of (o:=0) h5;have q1:=cell_of (o:=1) h5;have f1:=frozen_of (o:=1) h5;simp at q0 q1;have p3:=Pre.mk (heap_lt h5)
 go_wp2_with fail
 have hT1:=set_self (o:=0) (v:=.int .i64 x) h5;simp at hT1;have hT2:=set_self (o:=1) (v:=.int .i64 y) hT1;simp at hT2;have hA:W.heap.size≠A:=by omega
 have hB:W.heap.size≠B:=by omega
 have hR:=(R2.out.setOther (C:=W.heap.size) (o:=0) (v:=.int .i64 x) hA hB).setOther (C:=W.heap.size) (o:=1) (v:=.int .i64 y) hA hB;have hG:=(G2.out.set hWl (.int .i64 x) (o:=0)).set hWl (.int .i64 y) (o:=1);have hK:=Keep2.setNew (o:=1) (v:=.int .i64 y) (Keep2.setNew (o:=0) (v:=.int .i64 x) ((Keep2.ofGrew gw).trans K2.out) (Nat.le_refl W.heap.size)) (Nat.le_refl _);generalize (W2.setCell ⟨W.heap.size,0,none⟩ (.int .i64 x)).setCell ⟨W.heap.size,1,none⟩ (.int .i64 y)=W3 at *;clear q0 q1 f0 f1;have c0:=cell_of (o:=0) hT2;have c1:=cell_of (o:=1) hT2;simp at c0 c1;exact bodyPost_ret (v:=.agg #[.int .i64 x,.int .i64 y]) (by simp[results,Tryz.results101,go_sem,c0,c1]) rfl ⟨rfl,hR,hG,hK⟩
theorem kid_pos{n:Nat}{k:Bool}(h:n=0↔k=false)(hk:k=true): (0:Int)<(n:Int):=by
 rcases Nat.eq_zero_or_pos n with q|q
 ·rw[h.1 q] at hk;cases hk
 ·omega
theorem chg3(w0 W:World)(B b n cap i:Nat)(lc:List NdC)(l:List Gr.Nd)(st:StC)(s:Gr.Stp)(h:Work w0 W B (.slice (some ⟨b,0,none⟩) n cap) lc l st s (i:Int))(hi:i<l.length)(hl:l.length≤100)(hkd:s.kind=3): Calls Tryz.prog 112 #[.pointer (some ⟨B,0,none⟩)] W (WkPost w0 B st s (i:Int) (chgE l i l[i] s) W):=by
 have hlen:=Rel.len h.inn;have hic:i<lc.length:=by omega
 have hsk:=h.stp.kind;obtain⟨c,hc⟩:∃c,lc[i]? = some c:=⟨_,List.getElem?_eq_getElem hic⟩;obtain⟨hni,hno⟩:=Rel.get h.inn i c l[i] hc (List.getElem?_eq_getElem hi);have hnk:=hni.kind;have hnid:=hni.id;have H:=hY h;have HC:=hY hc;have HNI:=hY hni;have HNO:=hY hno;obtain⟨hnl,hbb,hlc2,hcm,cur,hcur,_,_⟩:=OwnAt.cells h.own;have hni2:(i:Int)<(n:Int):=by omega
 have hi0:¬((i:Int)<0):=by omega
 have pBn:∀q,Pre B (W.drewN q):=fun q=>Pre.mk (heap_lt h.blk)
 have pbn:∀q,Pre b (W.drewN q):=fun q=>Pre.mk (heap_lt hcur)
 have hwr:IntKind.i64.wrap ((i:Int)+1)=(i:Int)+1:=IntWalk.i64_in _ (by omega);have pb:=Pre.mk (heap_lt hcur);have HCUR:=hY hcur;have HBB:=hY hbb;have HNL:Hid (n=lc.length∧i<lc.length∧lc.length≤100∧lc.length=l.length):=hY ⟨hnl,hic,by omega,hlen⟩;have k0:=own_cellN (j:=0) h.own hc (by decide);have k1:=own_cellN (j:=1) h.own hc (by decide);simp[encNd] at k0 k1;have x0:=cell_of (o:=0) h.blk;have x1:=cell_of (o:=1) h.blk;have x16:=cell_of (o:=16) h.blk;have pB:=Pre.mk (heap_lt h.blk);obtain⟨kd,⟨id,kind,af,nf,cf,ap,np,cp,par,r0,r1,r2,r3,r4,r5,r6,r7⟩,rs⟩:=st;simp[wkC,encSt] at x0 x1 x16;simp only at hsk;rw[hsk] at hkd;subst hkd;have he:chgE l i l[i] s=if l[i].kind=0∨kidB l l[i].id=true then (11,[]) else (0,l.take i++l.drop (i+1)):=by unfold chgE;rw[if_neg (by omega),if_pos hsk]
 rw[he];clear he;by_cases h2:l[i].kind=0
 ·rw[if_pos (.inl h2)];have hne:(c.kind==0)=true:=by rw[←hnk,h2];rfl
  clear h hlen hic hc hni hno hcur hbb hnl hlc2 hcm h2 hnk hnid;go_enter Tryz.func112,Tryz.ntmps112
  go_upto_region 3 with fail
  go_quiet (fail)
  go_upto_region 11 with fail
  go_quiet (fail)
  go_wp2;go_ret;exact⟨rfl,fun q=>absurd q (by decide),H.o.g.trans gw⟩
 ·have hne:(c.kind==0)=false:=by rw[←hnk];simpa using h2
  have HKI:=hY fun W2 (g:Grew W W2)=>children_any _ l c.id W2 ((NodesIn.at h.inn h.own).grew g) (by omega)
  cases hk3:kidB l l[i].id
  case true =>
   rw[if_pos (.inr rfl)];rw[hnid] at hk3;have HK3:=hY hk3;clear h hlen hic hc hni hno hcur hbb hnl hlc2 hcm h2 hnk hnid hk3;go_enter Tryz.func112,Tryz.ntmps112
   go_upto_region 3 with fail
   go_quiet (fail)
   go_upto_region 11 with fail
   go_cut [61] (fun s61 wx=>s61 = .bool true∧Grew W wx)
   case first =>
    clear HNI HNO HC HCUR HBB HNL hwr x1 x16 H hi hl hi0 hni2
    go_region_held3 (fun w'=>w'.cell? ⟨B,0,none⟩=some (.slice (some ⟨b,0,none⟩) n cap)∧w'.cell? ⟨b,i*13,none⟩=some (.int .i64 c.id)∧w'.cell? ⟨b,i*13+1,none⟩=some (.int .i64 c.kind)) ((refine⟨?_,?_,?_⟩<;>simp[go_sem, *])) (first
     | (go_simp;go_at_call 157;refine(HKI.o _ gw).mono ?_;rintro e9 w9 ⟨a9,n9,c9,rfl,h9,hn9,R9,N9,rfl⟩;(have hpos:=kid_pos h9 HK3.o);clear h9))
    all_goals
     go_wp2_with fail
     go_meet
     exact⟨by first|rfl|exact congrArg Value.bool (decide_eq_true (by omega)),gw⟩
   obtain⟨rfl,hg⟩:=hcut;have HGC:=hY hg;clear hg;go_wp2;go_ret;exact⟨rfl,fun q=>absurd q (by decide),(H.o.g.trans HGC.o).trans gw⟩
  case false =>
   rw[if_neg (fun q=>q.elim h2 (fun q=>by cases q))];rw[hnid] at hk3;have HK3:=hY hk3;obtain⟨m,rfl⟩:∃m,n=m+1:=⟨n-1,by omega⟩;have hde:∀W2,Grew W W2→Calls Tryz.prog 158 #[.slice (some ⟨b,0,none⟩) (m+1) cap,.int .i64 (i:Int),.int .i64 ((i:Int)+1)] W2 (DelPost w0 W2 b m cap (lc.take i++lc.drop (i+1))):=fun W2 g=>delete_any w0 W2 b cap m i (i+1) rfl lc (h.g.trans g) (h.own.grew g) (by omega) (by omega)
   have HDE:=hY hde;clear h hlen hic hc hni hno hcur hbb hnl hlc2 hcm h2 hnk hnid hk3 hde;go_enter Tryz.func112,Tryz.ntmps112
   go_upto_region 3 with fail
   go_quiet (fail)
   go_upto_region 11 with fail
   go_cut [61] (fun s61 wx=>s61 = .bool false∧Grew W wx)
   case first =>
    clear HNI HNO HC HCUR HBB HNL hwr x1 x16 H hi hl hi0 hni2 HDE
    go_region_held3 (fun w'=>w'.cell? ⟨B,0,none⟩=some (.slice (some ⟨b,0,none⟩) (m+1) cap)∧w'.cell? ⟨b,i*13,none⟩=some (.int .i64 c.id)∧w'.cell? ⟨b,i*13+1,none⟩=some (.int .i64 c.kind)) ((refine⟨?_,?_,?_⟩<;>simp[go_sem, *])) (first
     | (go_simp;go_at_call 157;refine(HKI.o _ gw).mono ?_;rintro e9 w9 ⟨a9,n9,c9,rfl,h9,hn9,R9,N9,rfl⟩;obtain rfl:n9=0:=h9.2 HK3.o;clear h9))
    all_goals
     go_wp2_with fail
     go_meet
     exact⟨by first|rfl|exact congrArg Value.bool (decide_eq_true (by omega)),gw⟩
   obtain⟨rfl,hg⟩:=hcut;have HGC:=hY hg;have hbc:=grew_heap hg H.o.blk;have x0':=cell_of (o:=0) hbc;have x16':=cell_of (o:=16) hbc;have pB':=Pre.mk (heap_lt hbc);simp[wkC,encSt] at x0' x16';clear hg x0 x1 x16 pB pb hbc
   go_upto_region 13 with fail
   refine wp_region_noPanic ?_
   go_region_law (go_simp;go_at_call 158;((with_reducible refine Calls.mono (HDE.o _ ?_) ?_));(focus(exact HGC.o.trans gw));rintro e9 w9 ⟨rfl,ho9,hg9,hk9⟩;obtain⟨hb9,hw9⟩:=(H.o.grew (HGC.o.trans gw)).del hk9 hg9 ho9;(have HW9:=hY hw9);(have cb9:=cell_of (o:=0) hb9);(have fb9:=frozen_of (o:=0) hb9);(have pb9:=Pre.mk (heap_lt hb9));simp[wkC] at cb9;clear hb9 hw9 ho9 hg9 hk9)
   all_goals
    refine NoPanic.normal ?_;go_wp2;go_ret;exact⟨rfl,fun _=>⟨_,_,Work.grew HW9.o gw⟩,HW9.o.g.trans gw⟩
end Go.Proofs.YtipgfjihdglocaaGreat
