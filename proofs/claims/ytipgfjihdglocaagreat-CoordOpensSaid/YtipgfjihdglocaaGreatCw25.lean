import Derived.Test.YtipgfjihdglocaaGreatCw19
import Derived.Test.YtipgfjihdglocaaGreatCw14
import Derived.Test.YtipgfjihdglocaaGreatCw18
import Derived.Test.YtipgfjihdglocaaGreatCw5
import Derived.Lib.AppendStr
import Derived.Test.YtipgfjihdglocaaGreatCw21
import Derived.Test.YtipgfjihdglocaaGreatCw11
import Derived.Test.YtipgfjihdglocaaGreatCw15
set_option linter.unusedSimpArgs false
set_option linter.unusedVariables false
set_option maxRecDepth 100000
set_option maxHeartbeats 64000000
namespace Go.Proofs.YtipgfjihdglocaaGreat
open Go.RowKit Ga
theorem clean49_2(id kd par r0 r1 r2 r3 r4 r5 r6 r7:Int)(af ap:Option Addr)(nf cf np cp:Nat)(reset:Bool)(s:Gr.Stp)(w:World)(hn:StepIs w ⟨2,⟨id,kd,af,nf,cf,ap,np,cp,par,r0,r1,r2,r3,r4,r5,r6,r7⟩,reset⟩ s)(hs:s.nd.frm.length≤1000∧s.nd.prog.length≤1000): Calls Tryz.prog 105 #[.agg #[.int .i64 2,.int .i64 id,.int .i64 kd,.slice af nf cf,.slice ap np cp,.int .i64 par,.int .i64 r0,.int .i64 r1,.int .i64 r2,.int .i64 r3,.int .i64 r4,.int .i64 r5,.int .i64 r6,.int .i64 r7,.bool reset]] w (CleanGives (Gr.cleanS s) w):=by
 have hcl:=hn.clean;have HCL:=hY hcl;have HN:=hY hn;have H1:=hY fun W (g:Grew w W)=>cloneInts_any _ s.nd.frm W (HN.o.nd.f.grew g) hs.1
 have H2:=hY fun W (g:Grew w W)=>cloneVals_any _ s.nd.prog W (HN.o.nd.p.grew g) hs.2
 have HND:=hY hn.nd;have HS:=hY hs;have HK:=hY hn.kind;clear hn hcl hs;go_enter Tryz.func105,Tryz.ntmps105
 go_wp2_with (go_at_call 55;refine(norm_one _ s.nd _ (NodesAt.one (HND.o.grew gw) _ (by simp[World.size_alloc]) _ rfl) HS.o).mono ?_;rintro e w1 ⟨b,cap,c,rfl,hb,hn1,ho1,hg1,k0,k1,k2,k3,k4,k5,k6,k7,k8,k9,k10,k11,k12⟩;obtain⟨q0,q1,qa,qc,qp,qq,q2,q3,q4,q5,q6,q7,q8,q9,q10,rfl⟩:=hn1.lit;simp only at k0 k1 k2 k3 k4 k5 k6 k7 k8 k9 k10 k11 k12;(have HN1:=hY hn1);(have HO1:=hY ho1);obtain⟨R1,n1,rfl⟩:=hg1;clear hn1 ho1)
 refine bodyPost_ret (res_clean49 rfl (grew_heap ((Grew.refl _).more _ _) (heap_alloc' (heap_alloc' (heap_alloc' (heap_new_at (w.alloc _) _ _ (by simp[World.size_alloc])) _) _) _))) rfl ?_;refine clean_made2 (c:=⟨q0,q1,qa,s.nd.frm.length,qc,qp,s.nd.prog.length,qq,q2,q3,q4,q5,q6,q7,q8,q9,q10⟩) HK.o ?_ ?_ ?_
 ·exact OwnsNd.is (OwnsNd.to HO1.o (fun b hb _=>heap_more_same (by simp[World.size_alloc]) _ _ _ hb)) HN1.o
 ·exact OwnsNd.low (OwnsNd.to HO1.o (fun b hb _=>heap_more_same (by simp[World.size_alloc]) _ _ _ hb)) (by simp[World.size_alloc];omega)
 ·exact gw
theorem pairS_eq{α β:Type}{ra:Gr.Rs→α×Gr.Rs}{rb:Gr.Rs→β×Gr.Rs}{s t u:Gr.Rs}{x:α}{y:β}(h1:ra s=(x,t))(h2:rb t=(y,u)): Gr.pairS ra rb s=((x,y),u):=by
 unfold Gr.pairS;rw[h1];simp only;rw[h2]
theorem valS_eq{s t u:Gr.Rs}{x y:Int}(h1:Gr.numS (-2147483648) 2147483647 s=(x,t))(h2:Gr.numS (-2147483648) 2147483647 t=(y,u)): Gr.valS s=((x,y),u):=pairS_eq h1 h2
theorem valS_len(s:Gr.Rs): (Gr.valS s).2.1.length≤s.1.length:=by
 have h1:=numS_len (-2147483648) 2147483647 s;have h2:=numS_len (-2147483648) 2147483647 (Gr.numS (-2147483648) 2147483647 s).2;exact Nat.le_trans h2 h1
theorem rdVal_any(w0:World)(A B:Nat)(s:Gr.Rs)(W:World)(h:RdAt w0.heap.size A B W s)(hg:Grew w0 W)(hs:s.1.length≤1000000):
  Calls Tryz.prog 101 #[.pointer (some ⟨A,0,none⟩)] W (RdPost w0 W A B (.agg #[.int .i64 (Gr.valS s).1.1,.int .i64 (Gr.valS s).1.2]) (Gr.valS s).2):=by
 have n1:=fun W h g=>rdNum_any w0 A B s (-2147483648) 2147483647 W h g hs
 have z1:=numS_len (-2147483648) 2147483647 s;obtain⟨x,sa,e1⟩:∃x t,Gr.numS (-2147483648) 2147483647 s=(x,t):=⟨_,_,rfl⟩;rw[e1] at n1 z1;simp only at z1;have n2:=fun W h g=>rdNum_any w0 A B sa (-2147483648) 2147483647 W h g (by omega)
 obtain⟨y,sb,e2⟩:∃x t,Gr.numS (-2147483648) 2147483647 sa=(x,t):=⟨_,_,rfl⟩;rw[e2] at n2;rw[valS_eq e1 e2];simp only at n1 n2 ⊢;have N1:=hY n1;have N2:=hY n2;have H:=hY h;have HG:=hY hg;have hAl:=heap_lt h.2.1;have hBl:=heap_lt h.2.2.2;have hWl:=hg.below.size;clear n1 n2 e1 e2 h hg;go_enter Tryz.func101,Tryz.ntmps101;have H5:=hY (heap_new_at W (.cells #[.int .i64 0,.int .i64 0] 112) _ rfl)
 go_wp2_with fail
 refine(N1.out _ (H.o.grew gw) (HG.o.trans gw)).mono ?_;rintro e W1 ⟨rfl,r1,g1,k1⟩;have R1:=hY r1;have G1:=hY g1;have K1:=hY k1;clear r1 g1 k1
 go_wp2_with fail
 refine(N2.out _ R1.out G1.out).mono ?_;rintro e W2 ⟨rfl,r2,g2,k2⟩;have R2:=hY r2;have G2:=hY g2;have K2:=hY (K1.out.trans k2);clear r2 g2 k2;have h5:=K2.out.2 W.heap.size (by rw[World.size_alloc];omega) (by omega) (by omega);rw[H5.o] at h5;have q0:=cell_of (o:=0) h5;have f0:=frozen_of (o:=0) h5;have q1:=cell_of (o:=1) h5;have f1:=frozen_of (o:=1) h5;simp at q0 q1;have p3:=Pre.mk (heap_lt h5)
 go_wp2_with fail
 have hT1:=set_self (o:=0) (v:=.int .i64 x) h5;simp at hT1;have hT2:=set_self (o:=1) (v:=.int .i64 y) hT1;simp at hT2;have hA:W.heap.size≠A:=by omega
 have hB:W.heap.size≠B:=by omega
 have hR:=(R2.out.setOther (C:=W.heap.size) (o:=0) (v:=.int .i64 x) hA hB).setOther (C:=W.heap.size) (o:=1) (v:=.int .i64 y) hA hB;have hG:=(G2.out.set hWl (.int .i64 x) (o:=0)).set hWl (.int .i64 y) (o:=1);have hK:=Keep2.setNew (o:=1) (v:=.int .i64 y) (Keep2.setNew (o:=0) (v:=.int .i64 x) ((Keep2.ofGrew gw).trans K2.out) (Nat.le_refl W.heap.size)) (Nat.le_refl _);generalize (W2.setCell ⟨W.heap.size,0,none⟩ (.int .i64 x)).setCell ⟨W.heap.size,1,none⟩ (.int .i64 y)=W3 at *;clear q0 q1 f0 f1;have c0:=cell_of (o:=0) hT2;have c1:=cell_of (o:=1) hT2;simp at c0 c1;exact bodyPost_ret (v:=.agg #[.int .i64 x,.int .i64 y]) (by simp[results,Tryz.results101,go_sem,c0,c1]) rfl ⟨rfl,hR,hG,hK⟩
theorem strCells_flat(t:List UInt8): Lib.strCells ⟨t.toArray⟩=t.flatMap encB:=by
 unfold Lib.strCells;simp only
 induction t with
 | nil=>rfl
 |cons x t ih =>
  rw[List.flatMap_cons,←ih];rfl
theorem wpList_ownStr{w0:World}{v:Value}{l:List UInt8}{ops:Array Oper}{rest:List Oper}{o:Oper}{a:Act}{Q:Exit→Act→World→Prop}{W:World}
  (hgd:o.guard=none) (s x:Operand) (ho:o.op = .call { callee:=.builtin .append,args:=#[s,x],argTypes:=#[145,9] })
  (hs:a.eval s=v) (hown:OwnAt w0.heap.size 5 1 encB W v l) (hg:Grew w0 W) (t:List UInt8) (hx:a.eval x = .string ⟨t.toArray⟩) (hlen:l.length+t.length≤1000000)
  (h:∀v' R N,OwnAt w0.heap.size 5 1 encB (w0.more R N) v' (l++t)→(∀q,q<W.heap.size→v.ownBlock≠some q→(w0.more R N).heap[q]? = W.heap[q]?)→W.heap.size≤(w0.more R N).heap.size→wpList Tryz.prog ops Q rest (a.put o.dst v') (w0.more R N)):wpList Tryz.prog ops Q (o::rest) a W:=by
 obtain⟨i,hi,hz0,hz1,hz2⟩:=info_parts infoU8;have hsz:(⟨t.toArray⟩:ByteArray).size=t.length:=by simp[ByteArray.size]
 refine Lib.wpList_append_own_string W hgd s x 145 9 ho w0.heap.size 5 i Tryz.underlying145 Tryz.underlying9 hi hz0 hz1 hz2 v l.length (l.flatMap encB) hs hown ⟨t.toArray⟩ hx (by rw[hsz];unfold maxLen;omega) (by rw[hsz];omega) hg.below.size ?_;intro v' w' h1 h2 _;have hblk:=h2.block;have hszz:=h2.size;obtain⟨R,N,rfl⟩:=hg.grown h2 (fun q hq=>OwnAt.lt hown q hq);refine h v' R N ?_ (fun q hq hne=>hblk q hq (fun e=>hne e.symm)) hszz;unfold OwnAt;rw[List.length_append,List.flatMap_append,←strCells_flat t,←hsz];exact h1
theorem KeptW.step0{base B:Nat}{wr W9:World}{vk v9:Value}{ys:List UInt8}(hw:WriterAt base B wr vk ys)(hsz:wr.heap.size≤W9.heap.size)(hk:∀q,q<wr.heap.size→vk.ownBlock≠some q→W9.heap[q]? = wr.heap[q]?): KeptW base B wr (W9.setCell ⟨B,0,none⟩ v9) :=
 ⟨by rw[World.size_setCell];exact hsz,fun q hq hn hs=>by rw[heap_set_other (fun e=>hn e.symm),hk q hq (hs.own hw.2.2)]⟩
theorem octText_any(w0 W:World)(B:Nat)(vb:Value)(bs t:List UInt8)(hw:WriterAt w0.heap.size B W vb bs)(hg:Grew w0 W)(hlen:bs.length+t.length≤90000):
  Calls Tryz.prog 93 #[.pointer (some ⟨B,0,none⟩),.string ⟨t.toArray⟩] W fun e W'=>e = .returned (.int .i64 0)∧Grew w0 W'∧KeptW w0.heap.size B W W'∧∃vb',WriterAt w0.heap.size B W' vb' (bs++(Oc.be t.length++t)):=by
 have HW:=hY hw;have HG:=hY hg;have hBlt:=heap_lt hw.2.1;have hbig:¬(1048576:Int)<(t.length:Int):=by omega
 clear hw hg;go_enter Tryz.func93,Tryz.ntmps93
 go_wp2_with fail
 refine(writerNum_freshK w0 W B vb bs [(t.length:Int)] [.int .i64 t.length] _ _ _ HW.o HG.o rfl (by simp[go_sem]) rfl ?_ (by simp;omega)).mono ?_
 ·simp only[List.all_cons,List.all_nil,Bool.and_true];exact fits_of (by omega) (by omega)
 rintro e W1 ⟨rfl,hg1,hk1,vb1,hw1⟩;rw[be_one] at hw1;have HW1:=hY hw1;have HG1:=hY hg1;have HK1:=hY hk1;have c0:=cell_of_heap (o:=0) hw1.2.1;have f0:=frozen_of_heap (o:=0) hw1.2.1;have pB:=Pre.mk (heap_lt hw1.2.1);simp at c0;clear hw1 hg1 hk1
 go_wp2_with (at_builtin;go_loud (refine wpList_ownStr (w0:=w0) rfl (.tmp 21) (.tmp 22) rfl rfl HW1.o.2.2 HG1.o t rfl (by rw[List.length_append,Oc.be_len];omega) ?_);intro v9 R9 n9 hown9 hkeep9 hsz9;obtain⟨a9,c9,rfl⟩:=(OwnAt.rows hown9 encB_len).len;(have hB9:(w0.more R9 n9).heap[B]? = some (.cells #[vb1] 147):=(by rw[hkeep9 B (heap_lt HW1.o.2.1) (Safe.own (.inr ⟨_,_,_,HW1.o.2.1,by decide⟩) HW1.o.2.2)];exact HW1.o.2.1));(have hcB:=cell_of_heap (o:=0) hB9);(have hfB:=frozen_of_heap (o:=0) hB9);simp at hcB;(have HO9:=hY hown9);(have HK9:=hY hkeep9);(have HS9:=hY hsz9);(have HB9:=hY hB9);(have pB9:=Pre.mk (heap_lt hB9));clear hown9 hkeep9 hsz9 hB9)
 go_ret;have hsB:Safe w0.heap.size B (w0.more R9 n9):=.inr ⟨_,_,_,HB9.o,by decide⟩;refine⟨rfl,Grew.setBehind ⟨R9,n9,rfl⟩ HW1.o.1 _,HK1.o.trans (KeptW.step0 HW1.o HS9.o HK9.o),_,HW1.o.1,heap_set_self HB9.o,?_⟩;have ho9:=HO9.o;simp only[List.length_append,Nat.add_assoc] at ho9;rw[←List.append_assoc];exact OwnAt.sameBlock ho9 fun q hq=>heap_set_other (fun e=>by subst e;exact hsB.own ho9 hq)
theorem GatherAt.keep{W W':World}{x b n b2:Nat}{g:List Gr.Nd}{ep:Int}{m:List (Who×AkC)}(h:GatherAt W x b n g ep m)(hk:Keep b2 W W')(h1:x≠b2)(h2:b≠b2)(hb:∀c t f,W.heap[b2]? ≠ some (.cells c t f)): GatherAt W' x b n g ep m:=by
 obtain⟨v,q1,q2⟩:=h.cells;exact { h with cells:=⟨v,by rw[hk.2 x (heap_lt q1) h1];exact q1,nodes_keep q2 hk hb⟩,map:=h.map.same (hk.2 b h.map.lt h2) }
theorem GatherAt.fresh{W:World}{x b n:Nat}{g:List Gr.Nd}{ep:Int}{m:List (Who×AkC)}(h:GatherAt W x b n g ep m): x<W.heap.size∧b<W.heap.size:=by
 obtain⟨v,q1,-⟩:=h.cells;exact⟨heap_lt q1,h.map.lt⟩
structure AkP where
 ents:List Tab.En
 lines:List Gr.Ln
 off:Int
def AkIs(W:World)(c:AkC)(a:AkP): Prop:=c.off=a.off∧(∃b,OwnAt b 115 6 encEn W (.slice c.ae c.ne c.ce) a.ents)∧(∃b,OwnAt b 122 5 encLn W (.slice c.ax c.nx c.cx) a.lines)∧a.ents.length≤100∧a.lines.length≤100
theorem AkIs.grew{W W':World}{c:AkC}{a:AkP}(h:AkIs W c a)(g:Grew W W'): AkIs W' c a:=by
 obtain⟨h1,⟨b1,h2⟩,⟨b2,h3⟩,h4,h5⟩:=h;exact⟨h1,⟨b1,h2.grew g⟩,⟨b2,h3.grew g⟩,h4,h5⟩
structure GaSt (w W:World) (B:Nat) (ep:Int) (vO vX vE:Value) (os:List Int) (xs:List Gr.Ln) (es:List Tab.En) (vT:Value) (T:List Who):Prop where
 g:Grew w W
 hB:w.heap.size<B
 z:W.heap[w.heap.size]? = some (.cells #[.int .i64 0,.int .i64 0,.slice none 0 0,.slice none 0 0,.slice none 0 0,.slice none 0 0,.slice none 0 0] 47)
 blk:W.heap[B]? = some (.cells #[.int .i64 ep,.int .i64 0,vO,.slice none 0 0,.slice none 0 0,vX,.slice none 0 0] 47)
 o:OwnAt w.heap.size 3 1 encN W vO os
 x:OwnAt w.heap.size 122 5 encLn W vX xs
 e:OwnAt w.heap.size 115 6 encEn W vE es
 t:OwnAt w.heap.size 178 2 encWho W vT T
theorem GaSt.grew{w W W':World}{B:Nat}{ep:Int}{vO vX vE:Value}{os:List Int}{xs:List Gr.Ln}{es:List Tab.En}{vT:Value}{T:List Who}(h:GaSt w W B ep vO vX vE os xs es vT T)(q:Grew W W'): GaSt w W' B ep vO vX vE os xs es vT T :=
 ⟨h.g.trans q,h.hB,grew_heap q h.z,grew_heap q h.blk,h.o.grew q,h.x.grew q,h.e.grew q,h.t.grew q⟩
end Go.Proofs.YtipgfjihdglocaaGreat
