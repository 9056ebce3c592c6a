import Derived.Test.YtipgfjihdglocaaGreatCw16
import Derived.Deep.LoopGhost
import Derived.Maps.RangeWalk
import Derived.Test.YtipgfjihdglocaaGreatCw15
import Derived.Test.YtipgfjihdglocaaGreatCw12
import Derived.Test.YtipgfjihdglocaaGreatCw11
import Derived.Test.YtipgfjihdglocaaGreatCw5
import Derived.Deep.QuietTactic
import Derived.BigQuiet
import Derived.Deep.RegionHeld3
import Derived.Test.YtipgfjihdglocaaGreatCw9
set_option linter.unusedSimpArgs false
set_option linter.unusedVariables false
set_option maxRecDepth 100000
set_option maxHeartbeats 64000000
namespace Go.Proofs.YtipgfjihdglocaaGreat
open Go.RowKit Ga
theorem len512{l:List Tab.En}(h:∀x∈l,There x)(hu:l.Pairwise fun a b=>Tab.num a≠Tab.num b): l.length≤512:=by
 have hn:(l.map fun x=>(Tab.num x).toNat).Nodup:=by
  rw[List.nodup_iff_pairwise_ne,List.pairwise_map];refine(List.pairwise_iff_forall_sublist.2 fun {a b} hs=>?_);have hab:=(List.pairwise_iff_forall_sublist.1 hu) hs;have ha:=h a (hs.subset (List.mem_cons_self ..));have hb:=h b (hs.subset (List.mem_cons_of_mem _ (List.mem_cons_self ..)));unfold There at ha hb;unfold Tab.num at *;omega
 have h2:=List.Nodup.length_le_of_subset (l₂:=List.range 512) hn fun y hy=>by
  obtain⟨x,hx,rfl⟩:=List.mem_map.1 hy;have hx':=h x hx;unfold There at hx';unfold Tab.num;rw[List.mem_range];omega
 simpa using h2
theorem un_eq{m:List Tab.En}(hu:m.Pairwise fun a b=>Tab.num a≠Tab.num b){x y:Tab.En}(hx:x∈m)(hy:y∈m)(h:Tab.num x=Tab.num y): x=y:=by
 obtain⟨i,hi,rfl⟩:=List.mem_iff_getElem.1 hx;obtain⟨j,hj,rfl⟩:=List.mem_iff_getElem.1 hy;have hp:=List.pairwise_iff_getElem.1 hu;rcases Nat.lt_trichotomy i j with h3|h3|h3
 ·exact absurd h (hp i j hi hj h3)
 ·subst h3;rfl
 ·exact absurd h.symm (hp j i hj hi h3)
structure Seen (D:DataW Unit) (m lo:List Tab.En) (left:Lit→Bool):Prop where
 un:lo.Pairwise fun a b=>Tab.num a≠Tab.num b
 sub:∀x∈lo,x∈m
 all:∀x∈m,∀kl,keyOf Tryz.prog 268 (ceK x.node x.key)=some kl→left kl=false→x∈lo
 out:∀x∈lo,∀kl,keyOf Tryz.prog 268 (ceK x.node x.key)=some kl→left kl=false
 has:∀kl,left kl=true→Maps.has D kl=true
theorem Seen.start{D:DataW Unit}{m:List Tab.En}(h:TabD D m): Seen D m [] (Maps.has D) :=
 ⟨List.Pairwise.nil,fun x hx=>(by cases hx),fun x hx kl hk hl=>(by rw[(h.at' x hx kl hk).1] at hl;cases hl),fun x hx=>(by cases hx),fun kl h=>h⟩
theorem Seen.next{D:DataW Unit}{m lo:List Tab.En}{left:Lit→Bool}(h:Seen D m lo left)(hD:TabD D m){n k:Int}{c0 c1:Val}{kl:Lit}{y:DataW Unit×List MemPlace}(hk:keyOf Tryz.prog 268 (ceK n k)=some kl)(hl:left kl=true)(hR:ceR (cev c0 c1)=some y)(hat:∀zd,D.atKey kl zd=y.1):
  Seen D m (lo++[⟨n,k,c0,c1⟩]) (fun z=>left z && !z.sameKey kl):=by
 obtain⟨p,hp,hpk⟩:=hD.has kl (h.has kl hl);obtain⟨e1,e2⟩:=ceK_inj (cell_law.inj hpk hk);have h3:=(hD.at' p hp kl hpk).2 (.agg []);rw[hat,←Option.some.inj hR] at h3;obtain⟨e3,e4⟩:=ceDat_inj h3;obtain⟨pn,pk,p0,p1⟩:=p;simp only at e1 e2 e3 e4;subst e1 e2 e3 e4;have hself:kl.sameKey kl=true:=WideAt.sameKey_self (cell_law.key hk);refine⟨?_,fun x hx=>?_,fun x hx k2 hk2 hl2=>?_,fun x hx k2 hk2=>?_,fun k2 hk2=>?_⟩
 ·rw[List.pairwise_append];refine⟨h.un,List.pairwise_singleton _ _,fun a ha b hb e=>?_⟩;rw[List.mem_singleton] at hb;subst hb;obtain⟨ka,hka⟩:=(hD.there a (h.sub a ha)).kl;have h5:=h.out a ha ka hka;rw[(key_other (hD.there a (h.sub a ha)) (hD.there _ hp) hka hk).2 e,hl] at h5;cases h5
 ·rcases List.mem_append.1 hx with h1|h1
  ·exact h.sub x h1
  ·rw[List.mem_singleton] at h1;subst h1;exact hp
 ·cases hq:left k2
  ·exact List.mem_append_left _ (h.all x hx k2 hk2 hq)
  ·rw[hq] at hl2;have h6:k2.sameKey kl=true:=by simpa using hl2
   have h7:k2=kl:=WideAt.sameKey_eq h6;subst h7;have h8:=un_eq hD.un hx hp ((key_other (hD.there x hx) (hD.there _ hp) hk2 hk).1 rfl);rw[h8];exact List.mem_append_right _ (List.mem_singleton.2 rfl)
 ·rcases List.mem_append.1 hx with h1|h1
  ·rw[h.out x h1 k2 hk2];rfl
  ·rw[List.mem_singleton] at h1;subst h1;have h9:k2=kl:=Option.some.inj (hk2.symm.trans hk);subst h9;rw[hself];simp
 ·simp only[Bool.and_eq_true] at hk2;exact h.has k2 hk2.1
theorem Seen.done{D:DataW Unit}{m lo:List Tab.En}{left:Lit→Bool}(h:Seen D m lo left)(hD:TabD D m)(h0:∀kl,left kl=false): lo.Perm m:=by
 have hn:∀{l:List Tab.En},(l.Pairwise fun a b=>Tab.num a≠Tab.num b)→l.Nodup:=fun hp=>by
  rw[List.nodup_iff_pairwise_ne];exact hp.imp fun h e=>h (by rw[e])
 rw[List.perm_ext_iff_of_nodup (hn h.un) (hn hD.un)];intro x;refine⟨h.sub x,fun hx=>?_⟩;obtain⟨kl,hk⟩:=(hD.there x hx).kl;exact h.all x hx kl hk (h0 kl)
abbrev RangesC(W:World)(b r n:Nat)(D:DataW Unit)(left:Lit→Bool)(cnt:Nat): Prop:=W.ranges Tryz.prog 268 ceR b r n D left cnt
theorem rangesC_same{W W':World}{b r n:Nat}{D:DataW Unit}{left:Lit→Bool}{cnt:Nat}(h:RangesC W b r n D left cnt)(hb:W'.heap[b]? = W.heap[b]?)(hr:W'.heap[r]? = W.heap[r]?): RangesC W' b r n D left cnt:=by
 obtain⟨es,clock,since,seen,c0,h1,h2,h3,h4,h5,h6⟩:=h;exact⟨es,clock,since,seen,c0,hb.trans h1,h2,h3,h4,hr.trans h5,h6⟩
theorem rangesC_lt{W:World}{b r n:Nat}{D:DataW Unit}{left:Lit→Bool}{cnt:Nat}(h:RangesC W b r n D left cnt): b<W.heap.size∧r<W.heap.size:=by
 obtain⟨es,clock,since,seen,c0,h1,h2,h3,h4,h5,h6⟩:=h;exact⟨heap_lt h1,heap_lt h5⟩
theorem rangesC_grew{W W':World}{b r n:Nat}{D:DataW Unit}{left:Lit→Bool}{cnt:Nat}(h:RangesC W b r n D left cnt)(g:Grew W W'): RangesC W' b r n D left cnt :=
 rangesC_same h (g.below.block b (rangesC_lt h).1) (g.below.block r (rangesC_lt h).2)
theorem rangesC_own{W:World}{b r n:Nat}{D:DataW Unit}{left:Lit→Bool}{cnt:Nat}(h:RangesC W b r n D left cnt){α:Type}{base:Nat}{e:TypeId}{k:Nat}{enc:α→List Value}{v:Value}{l:List α}(ho:OwnAt base e k enc W v l): v.ownBlock≠some b∧v.ownBlock≠some r:=by
 obtain⟨es,clock,since,seen,c0,h1,h2,h3,h4,h5,h6⟩:=h;constructor
 ·intro hv;obtain⟨_,cs,hc⟩:=OwnAt.block ho hv;rw[h1] at hc;cases hc
 ·intro hv;obtain⟨_,cs,hc⟩:=OwnAt.block ho hv;rw[h5] at hc;cases hc
theorem rangesC_app{W W' w0:World}{b r n:Nat}{D:DataW Unit}{left:Lit→Bool}{cnt:Nat}(h:RangesC W b r n D left cnt){α:Type}{base:Nat}{e:TypeId}{k:Nat}{enc:α→List Value}{v v':Value}{l l2:List α}(ho:OwnAt base e k enc W v l)(hA:Appended w0 e k enc W v l2 v' W'): RangesC W' b r n D left cnt :=
 rangesC_same h (hA.2.2.2.1 b (rangesC_lt h).1 (rangesC_own h ho).1) (hA.2.2.2.1 r (rangesC_lt h).2 (rangesC_own h ho).2)
theorem place_inv(key:Value)(kl:Lit)(h:keyOf Tryz.prog 268 key=some kl): ∃x:Int×Int,key=ceK x.1 x.2:=by
 have h2:key.formed Tryz.prog 268=true∧∃ls,Tryz.prog.keyLits (Tryz.prog.types.size+1) 268 key.cells.toList=some ls:=by
  unfold keyOf at h;simp only[Tryz.underlying268] at h;split at h
  ·rename_i hc
   simp only[Bool.and_eq_true] at hc;obtain⟨ls,hls,_⟩:=Option.map_eq_some_iff.1 h;exact⟨hc.2,ls,hls⟩
  ·cases h
 obtain⟨hf,ls,hls⟩:=h2;obtain⟨m,hm⟩:=Nat.exists_eq_succ_of_ne_zero sizeC
 have hint:∀(c:Value) (l:List Lit),Tryz.prog.keyLits (m+1) 3 [c]=some l→∃n:Int,c = .int .i64 n:=by
  intro c l hc;unfold Program.keyLits at hc;simp only[Tryz.underlying3] at hc;cases c<;>simp at hc
  rename_i k n
  obtain⟨⟨rfl,_⟩,_⟩:=hc;exact⟨n,rfl⟩
 cases key with
 |agg cs =>
  obtain⟨cs⟩:=cs
  have hsz:cs.length=2:=by
   simp[Value.formed,Tryz.underlying268,cellsC] at hf;exact hf
  match cs,hsz with
  |[c0,c1],_ =>
   rw[hm] at hls;unfold Program.keyLits at hls;simp[Tryz.underlying268,cellsC,cellsCI,Value.cells] at hls;obtain⟨l0,h0,h1⟩:=Option.bind_eq_some_iff.1 hls;obtain⟨_,h3,_⟩:=Option.map_eq_some_iff.1 h1;obtain⟨_,h4,_⟩:=Option.bind_eq_some_iff.1 h3;obtain⟨l1,h5,_⟩:=Option.bind_eq_some_iff.1 h4;obtain⟨n0,rfl⟩:=hint _ _ h0;obtain⟨n1,rfl⟩:=hint _ _ h5
   exact⟨(n0,n1),rfl⟩
 | _=>simp[Value.formed,Tryz.underlying268] at hf
theorem cev_inv(v:Value)(y:DataW Unit×List MemPlace)(h:ceR v=some y): ∃c:Val×Val,v=cev c.1 c.2:=let ⟨c,e,_⟩:=ceR_inv h;⟨c,e⟩
theorem infoEn:(Tryz.prog.info? 115).map (fun i=>(i.zero,i.size,i.bytes))=some (some (.agg #[.int .i64 0,.int .i64 0,.int .i64 0,.int .i64 0,.int .i64 0,.int .i64 0]),6,48):=by kernel_rfl
theorem en_at(W:World)(x:Tab.En)(t:TypeId)(b:Nat){c:Array Value}(hc:c=(encEn x).toArray)(hb:b=W.heap.size): ∀j u,(([x]:List Tab.En).flatMap encEn)[j]? = some u→(W.alloc (.cells c t)).cell? ⟨b,j,none⟩=some u:=by
 subst hc;intro j u hu;rw[new_cells W _ t b hb j];simpa using hu
theorem asked_any(n k:Int)(w:World): Calls Tryz.prog 195 #[.agg #[.int .i64 n,.int .i64 k]] w (Gives (.bool true) w):=by
 go_enter Tryz.func195,Tryz.ntmps195;go_wp2;go_ret;exact⟨rfl,gw⟩
def AllPost(m:List Tab.En)(w:World)(e:Ending)(w':World): Prop:=∃v s,e = .returned v∧OwnAt w.heap.size 115 6 encEn w' v s∧s.Perm m∧(s.Pairwise fun a b=>Tab.num a≤Tab.num b)∧Grew w w'
theorem tabSome_any(W:World)(t b n:Nat)(m:List Tab.En)(hT:TableAt W t b n m): Calls Tryz.prog 194 #[.pointer (some ⟨t,0,none⟩),.func (.func 195) #[] #[]] W (AllPost m W):=by
 have tc:=cell_of (o:=0) hT.1;simp at tc;have pt:=Pre.mk (heap_lt hT.1);obtain⟨D,ho,hD⟩:=hT.2;have HO:=hY ho;have HD:=hY hD;have hbW:=ho.lt;clear hT ho hD;go_enter Tryz.func194,Tryz.ntmps194
 go_wp2_with (at_range;refine wpList_range_own _ rfl (.tmp 13) 292 rfl 268 113 cell_law Tryz.underlying292 ceR b n D rfl HO.o ?_;intro W1 hr1 hg1 hs1;(have HR1:=hY hr1);(have HG1:=hY ((Grew.refl W).grown hg1 fun q hq=>by cases hq));clear hr1 hg1 hs1)
 go_simp
 go_loopg [5] (Maps.size D) (fun gg s5 wr=>∃(left:Lit→Bool) (cnt:Nat) (lo:List Tab.En) (vk:Value),cnt≤gg∧vk=s5∧Hid (OwnAt W.heap.size 115 6 encEn wr vk lo)∧Hid (RangesC wr b W.heap.size n D left cnt)∧Hid (Grew W wr)∧Hid (Seen D m lo left))
 case atStart=>exact⟨_,_,[],_,Nat.le_refl _,rfl,hY (OwnAt.nil _),HR1,HG1,hY (Seen.start HD.o)⟩
 case round =>
  obtain⟨left,cnt,lo,vk,hgg,rfl,HOW,HRG,HG,HS⟩:=hrel;have h512:=len512 (fun x hx=>HD.o.there x (HS.o.sub x hx)) HS.o.un;obtain⟨ak,ck,rfl⟩:=(OwnAt.rows HOW.o encEn_len).len
  go_wp2_with (at_next;go_loud (refine wpList_next_ranges _ rfl (.tmp 14) rfl 268 cell_law ceR (fun x:Int×Int=>ceK x.1 x.2) (fun c:Val×Val=>cev c.1 c.2) place_inv cev_inv b W.heap.size n D left cnt rfl HRG.o ?_ ?_))
  ·intro hc0 hl0;have hp:=HS.o.done HD.o hl0;have HP:=hY hp;clear hc0 hl0 hp
   go_wp2_with (go_at_call 222;refine(sortEnts_any W.heap.size _ _ lo (OwnAt.grew HOW.o gw) (fun x hx=>HD.o.there x (HS.o.sub x hx)) (by omega)).mono ?_;rintro e w3 ⟨rfl,l',q1,q2,q3,q4,q5,q6⟩;(have Q1:=hY q1);(have Q2:=hY q2);(have Q3:=hY q3);(have Q6:=hY (q6 W (HG.o.trans gw) (Nat.le_refl _)));clear q1 q2 q3 q4 q5 q6)
   go_ret;exact⟨_,l',rfl,Q1.out,Q2.out.trans HP.o,Q3.out,Q6.out⟩
  ·intro n' k' p0 q0 p1 q1 kl y1 y2 W1 cnt1 hkk hlk hRy hat hrg1 hlt hg1 hs1 hen;have HS1:=hY (HS.o.next HD.o hkk hlk hRy hat);have HG1:=hY (HG.o.grown hg1 fun q hq=>by cases hq;exact Nat.le_refl _);have HO1:Hid (OwnAt W.heap.size 115 6 encEn W1 (.slice ak lo.length ck) lo):=hY (OwnAt.same HOW.o fun q hq=>hg1.block q (by obtain⟨_,cs,hc⟩:=OwnAt.block HOW.o hq;exact heap_lt hc) (fun e=>(rangesC_own HRG.o HOW.o).2 (by rw[hq,e])));have HRG1:=hY hrg1;unfold ceK cev at hen ⊢;clear hkk hlk hRy hat hrg1 hg1 hs1
   go_wp2_with (first
    | (go_at_call 195;refine(asked_any _ _ _).mono ?_;rintro e w3 ⟨rfl,R3,n3,rfl⟩)
    | (at_builtin;go_loud (refine wpList_ownK (w0:=W) rfl (.tmp 23) (.tmp 30) 44 _ _ _ _ [⟨n',k',(p0,q0),(p1,q1)⟩] rfl Tryz.underlying44 infoEn rfl (by decide) encEn_len encEn_one rfl (OwnAt.grew HO1.o gw) (HG1.o.trans gw) rfl (en_at _ _ _ _ rfl (by simp[go_sem])) (by simp;omega) (by decide) (by simp) ?_;intro v5 W5 hA;(have HA:=hY hA);clear hA)))
   have HR5:=hY (rangesC_app (rangesC_grew HRG1.o gw) (OwnAt.grew HO1.o gw) HA.o)
   go_roundg cnt1
   case measure=>omega
   case rel=>exact⟨_,cnt1,_,_,Nat.le_refl _,rfl,hY HA.o.2.1,HR5,hY HA.o.1,HS1⟩
theorem tabAll_any(W:World)(t b n:Nat)(m:List Tab.En)(hT:TableAt W t b n m): Calls Tryz.prog 161 #[.pointer (some ⟨t,0,none⟩)] W (AllPost m W):=by
 have HT:=hY (tabSome_any W t b n m hT);clear hT;go_enter Tryz.func161,Tryz.ntmps161
 go_wp2_with (go_at_call 194;refine HT.o.mono ?_;rintro e w1 ⟨v,s,rfl,h1,h2,h3,h4⟩;obtain⟨ak,ck,rfl⟩:=(OwnAt.rows h1 encEn_len).len;(have H1:=hY h1);(have H2:=hY h2);(have H3:=hY h3);(have H4:=hY h4);clear h1 h2 h3 h4)
 go_ret;exact⟨_,s,rfl,H1.o,H2.o,H3.o,H4.o⟩
def badE(g:List Gr.Nd)(x:Tab.En): Bool:=match Gr.nodeOf g x.node with
 | none=>true
 | some n=>n.kind != 1
theorem remFits1_any(B:Nat)(a:Option Addr)(cap:Nat)(g:List Gr.Nd)(W:World)(x:Tab.En)(hg:NodesAt W (.slice a g.length cap) g)(hs:Small g)(hB:W.cell? ⟨B,0,none⟩=some (.slice a g.length cap)): Calls Tryz.prog 215 #[.agg #[.int .i64 x.node,.int .i64 x.key,.int .i64 x.c0.1,.int .i64 x.c0.2,.int .i64 x.c1.1,.int .i64 x.c1.2],.pointer (some ⟨B,0,none⟩)] W (Gives (.bool (badE g x)) W):=by
 obtain⟨nd,ky,⟨p0,q0⟩,⟨p1,q1⟩⟩:=x;have HF:=hY fun W' (h:Grew W W')=>find_any _ g nd W' (hg.grew h) hs
 have pB:=Pre.ofCell hB;show Calls Tryz.prog _ #[.agg #[.int .i64 nd,.int .i64 ky,.int .i64 p0,.int .i64 q0,.int .i64 p1,.int .i64 q1],.pointer (some ⟨B,0,none⟩)] W _;clear hg hs
 cases hn:Gr.nodeOf g nd with
 |none =>
  have hb:badE g ⟨nd,ky,(p0,q0),(p1,q1)⟩=true:=by unfold badE;simp only;rw[hn]
  rw[hb];rw[hn] at HF;clear hb hn;go_enter Tryz.func215,Tryz.ntmps215
  go_wp2_with (go_at_call 76;refine(HF.o _ gw).mono ?_;rintro e w1 ⟨rfl,R1,n1,rfl⟩)
  go_ret
  exact⟨rfl,gw⟩
 |some n =>
  have hb:badE g ⟨nd,ky,(p0,q0),(p1,q1)⟩=(n.kind != 1):=by unfold badE;simp only;rw[hn]
  rw[hb];rw[hn] at HF;clear hb hn;go_enter Tryz.func215,Tryz.ntmps215
  go_wp2_with (go_at_call 76;refine(HF.o _ gw).mono ?_;rintro e w1 ⟨c,rfl,h1,-,R1,n1,rfl⟩;(have hk:=h1.kind);obtain⟨cid,kind,af,cf,ap,cp,par,r0,r1,r2,r3,r4,r5,r6,r7,rfl⟩:=h1.lit;simp only at hk;(have HKD:=hY hk);clear h1 hk)
  go_ret;exact⟨by rw[HKD.o];rfl,gw⟩
theorem remFits_any(W:World)(t b n:Nat)(m:List Tab.En)(v:Value)(g:List Gr.Nd)(hT:TableAt W t b n m)(hv:NodesAt W v g)(hs:Small g): Calls Tryz.prog 187 #[.pointer (some ⟨t,0,none⟩),v] W (Gives (.bool (!(m.any (badE g)))) W):=by
 have HA:=hY fun W' (h:Grew W W')=>tabAll_any W' t b n m (hT.grew h)
 have HV:=hY hv;have HS:=hY hs;obtain⟨a,cap,rfl,-,-⟩:=hv.openC;have HC:=hY fun W' (h:Grew W W') B s u (hB:W'.cell? ⟨B,0,none⟩=some (.slice a g.length cap)) (hu:EntsAt W' u s)=>containsEn_any B u s (badE g) W' hu fun W2 x _ g2=>remFits1_any B a cap g W2 x (hv.grew (h.trans g2)) hs (below_keeps g2.below _ _ hB)
 clear hT hv hs;go_enter Tryz.func187,Tryz.ntmps187
 go_wp2_with (first
  | (go_at_call 161;refine(HA.o _ gw).mono ?_;rintro e w1 ⟨v1,s,rfl,h1,h2,h3,R1,n1,rfl⟩;(have HE:=hY (OwnAt.rows h1 encEn_len));obtain⟨a1,c1,rfl⟩:=HE.o.len;(have hany:=h2.any_eq (f:=badE g));(have HANY:=hY hany);clear h1 h2 h3 hany)
  | (go_at_call 214;refine(HC.o _ gw _ s _ (by simp[go_sem]) (HE.o.grew gw)).mono ?_;rintro e w1 ⟨rfl,R2,n2,rfl⟩;rw[HANY.o]))
 go_ret;exact⟨rfl,gw⟩
open Classical in
noncomputable def entB(l:List Tab.En)(g:List Gr.Nd): Bool:=newOk l&&(decide ((l.Pairwise fun a b=>Tab.num a<Tab.num b)∧∀x∈l,Tab.nz x=true) && !(l.any (badE g)))
theorem entB_no{l:List Tab.En}{g:List Gr.Nd}(h:newOk l=false): entB l g=false:=by unfold entB;rw[h];rfl
open Classical in
theorem entries_any(v u:Value)(l:List Tab.En)(g:List Gr.Nd)(w:World)(hv:EntsAt w v l)(hu:NodesAt w u g)(hs:Small g)(hl:l.length≤100000): Calls Tryz.prog 144 #[v,u] w (Gives (.bool (entB l g)) w):=by
 have HN:=hY fun W (h:Grew w W)=>tabNew_any _ l W (hv.grew h) hl
 have HV:=hY hv;have HU:=hY hu;obtain⟨a,cap,rfl,-,-⟩:=EntsAt.open6 hv;obtain⟨a2,cap2,rfl,-,-⟩:=hu.openC;clear hv hu;cases hok:newOk l
 case false =>
  rw[entB_no hok];have HOK:=hY hok;clear hok hs;go_enter Tryz.func144,Tryz.ntmps144
  go_wp2_with fail
  refine(HN.o _ gw).mono ?_;rintro e w1 (⟨h1,-⟩|⟨-,rfl,R1,n1,rfl⟩)
  ·rw[HOK.o] at h1;cases h1
  go_wp2;go_ret;exact⟨rfl,gw⟩
 have HOK:=hY hok;by_cases hP:(l.Pairwise fun a b=>Tab.num a<Tab.num b)∧∀x∈l,Tab.nz x=true
 case neg =>
  have hb:entB l g=false:=by unfold entB;rw[hok,decide_eq_false hP];rfl
  rw[hb];have HP:=hY hP;clear hok hb hP hs;go_enter Tryz.func144,Tryz.ntmps144
  go_wp2_with fail
  refine(HN.o _ gw).mono ?_;rintro e w1 (⟨-,t,b,rfl,hT,hb1,hb2,R1,n1,rfl⟩|⟨h1,-⟩);rotate_left
  ·rw[HOK.o] at h1;cases h1
  have HT:=hY hT;clear hT
  go_wp2_with fail
  refine(tabAll_any _ t b _ _ (HT.o.grew gw)).mono ?_;rintro e w2 ⟨v1,s,rfl,h1,h2,h3,R2,n2,rfl⟩;have HE:=hY (OwnAt.rows h1 encEn_len);obtain⟨a3,c3,rfl⟩:=HE.o.len;have HNE:=hY (decide_eq_false (fun e=>HP.o ((Tab.all_iff h2 h3).1 e)));clear h1 h2 h3
  go_wp2_with (go_at_call 70;refine(eqEns_any _ _ s l _ (HE.o.grew gw) (HV.o.grew gw)).mono ?_;rintro e w1 ⟨rfl,R3,n3,rfl⟩;rw[HNE.o])
  go_ret;exact⟨rfl,gw⟩
 have hany:(Tab.newT l).any (badE g)=l.any (badE g):=by rw[Tab.newT_rev l hP.1 hP.2,List.any_reverse]
 have hb:entB l g = !(l.any (badE g)):=by unfold entB;rw[hok,decide_eq_true hP];rfl
 rw[hb];have HP:=hY hP;have HANY:=hY hany;clear hok hb hP hany;go_enter Tryz.func144,Tryz.ntmps144
 go_wp2_with fail
 refine(HN.o _ gw).mono ?_;rintro e w1 (⟨-,t,b,rfl,hT,hb1,hb2,R1,n1,rfl⟩|⟨h1,-⟩);rotate_left
 ·rw[HOK.o] at h1;cases h1
 have HT:=hY hT;have HS:=hY hs;clear hT hs
 go_wp2_with fail
 refine(tabAll_any _ t b _ _ (HT.o.grew gw)).mono ?_;rintro e w2 ⟨v1,s,rfl,h1,h2,h3,R2,n2,rfl⟩;have HE:=hY (OwnAt.rows h1 encEn_len);obtain⟨a3,c3,rfl⟩:=HE.o.len;have HNE:=hY (decide_eq_true ((Tab.all_iff h2 h3).2 HP.o));clear h1 h2 h3
 go_wp2_with (first
  | (go_at_call 70;refine(eqEns_any _ _ s l _ (HE.o.grew gw) (HV.o.grew gw)).mono ?_;rintro e w1 ⟨rfl,R3,n3,rfl⟩;rw[HNE.o])
  | (go_at_call 187;refine(remFits_any _ t b _ _ _ g (HT.o.grew gw) (HU.o.grew gw) HS.o).mono ?_;rintro e w1 ⟨rfl,R4,n4,rfl⟩;rw[HANY.o]))
 go_ret;exact⟨rfl,gw⟩
abbrev Who:=Int×Int
def whK(x:Who): Value:=.agg #[.int .i64 x.1,.int .i64 x.2]
theorem whK_inj(a b:Who)(h:whK a=whK b): a=b:=by
 obtain⟨a1,a2⟩:=a;obtain⟨b1,b2⟩:=b;unfold whK at h;simp at h;obtain⟨rfl,rfl⟩:=h;rfl
def okWho(x:Who): Prop:=(-9223372036854775808≤x.1∧x.1≤9223372036854775807)∧(-9223372036854775808≤x.2∧x.2≤9223372036854775807)
theorem keyTypeW:Tryz.prog.keyType 178=true:=by kernel_rfl
theorem cellsW:Tryz.prog.cellsOf 178=2:=by kernel_rfl
theorem who_law:Maps.Keyed Tryz.prog 178:=Maps.Keyed.of_law (deep_law_laid laidOutC (m:=3) (by decide) (of_decide_eq_true (by kernel_rfl)) (by kernel_rfl) (by kernel_rfl))
theorem keyW(x:Who)(h:okWho x): ∃kl,keyOf Tryz.prog 178 (whK x)=some kl:=by
 have w1:=WalkArith.wf_i64 h.1;have w2:=WalkArith.wf_i64 h.2;unfold whK keyOf;obtain⟨m,hm⟩:=Nat.exists_eq_succ_of_ne_zero sizeC;simp only[Tryz.underlying178,keyTypeW,hm];simp[Value.formed,Tryz.underlying178,cellsW,Program.keyLits,Value.cells,Tryz.underlying3,cellsCI,w1,w2]
structure AkC where
 node:Int
 ix:Int
 ep:Int
 ae:Option Addr
 ne:Nat
 ce:Nat
 ax:Option Addr
 nx:Nat
 cx:Nat
 off:Int
def AkC.zero:AkC:=⟨0,0,0,none,0,0,none,0,0,0⟩
def akv(c:AkC): Value:=.agg #[.int .i64 c.node,.int .i64 c.ix,.int .i64 c.ep,.slice c.ae c.ne c.ce,.slice c.ax c.nx c.cx,.int .i64 c.off]
def adD:Option Addr→DataW Unit
 | none=>.nil
 | some ⟨b,o,none⟩=>.agg [.lit (.int .i64 b),.lit (.int .i64 o)]
 | some ⟨b,o,some s⟩=>.agg [.lit (.int .i64 b),.lit (.int .i64 o),.lit (.int .i64 s)]
theorem adD_inj:∀a b,adD a=adD b→a=b
 | none,none,_=>rfl
 | none,some ⟨_,_,none⟩,h=>by cases h
 | none,some ⟨_,_,some _⟩,h=>by cases h
 | some ⟨_,_,none⟩,none,h=>by cases h
 | some ⟨_,_,some _⟩,none,h=>by cases h
 |some ⟨a,b,none⟩,some ⟨c,d,none⟩,h=>by
  unfold adD at h;simp at h;obtain⟨h1,h2⟩:=h;obtain rfl:a=c:=by omega
  obtain rfl:b=d:=by omega
  rfl
 | some ⟨_,_,none⟩,some ⟨_,_,some _⟩,h=>by simp[adD] at h
 | some ⟨_,_,some _⟩,some ⟨_,_,none⟩,h=>by simp[adD] at h
 |some ⟨a,b,some e⟩,some ⟨c,d,some f⟩,h=>by
  unfold adD at h;simp at h;obtain⟨h1,h2,h3⟩:=h;obtain rfl:a=c:=by omega
  obtain rfl:b=d:=by omega
  obtain rfl:e=f:=by omega
  rfl
def akDat(c:AkC): DataW Unit:=.agg [.lit (.int .i64 c.node),.lit (.int .i64 c.ix),.lit (.int .i64 c.ep),adD c.ae,.lit (.int .i64 c.ne),.lit (.int .i64 c.ce),adD c.ax,.lit (.int .i64 c.nx),.lit (.int .i64 c.cx),.lit (.int .i64 c.off)]
def akL:List Value→Option (DataW Unit×List MemPlace)
 | [.int .i64 a,.int .i64 b,.int .i64 c,.slice s n k,.slice s2 n2 k2,.int .i64 o]=>some (akDat ⟨a,b,c,s,n,k,s2,n2,k2,o⟩,[])
 | _=>none
def akR:Value→Option (DataW Unit×List MemPlace)
 | .agg c=>akL c.toList
 | _=>none
theorem akDat_inj{a b:AkC}(h:akDat a=akDat b): a=b:=by
 obtain⟨a1,a2,a3,a4,a5,a6,a7,a8,a9,a10⟩:=a;obtain⟨b1,b2,b3,b4,b5,b6,b7,b8,b9,b10⟩:=b;unfold akDat at h;simp at h;obtain⟨rfl,rfl,rfl,h4,h5,h6,h7,h8,h9,rfl⟩:=h;rw[adD_inj _ _ h4,adD_inj _ _ h7,show a5=b5 by omega,show a6=b6 by omega,show a8=b8 by omega,show a9=b9 by omega]
theorem akR_inv(u:Value)(ps:List MemPlace)(v:AkC)(h:akR u=some (akDat v,ps)): u=akv v:=by
 cases u with
 |agg c =>
  obtain⟨c⟩:=c;have h2:akL c=some (akDat v,ps):=h;unfold akL at h2;split at h2
  ·injection h2 with h3
   injection h3 with h4 _
   have:=akDat_inj h4;rw[←this];rfl
  ·cases h2
 | _=>cases h
def ackS:MSpec Who AkC where
 kt:=178
 law:=who_law
 kenc:=whK
 kinj:=whK_inj
 ok:=okWho
 key:=keyW
 venc:=akv
 dat:=akDat
 R:=akR
 rmk:=fun v=>rfl
 rinv:=akR_inv
theorem zeroAck(w:World): (zeroValue 55).run Tryz.prog w = .ok (akv AkC.zero) w:=by kernel_rfl
theorem rows_keep{α:Type}{k:Nat}{enc:α→List Value}{w w':World}{v:Value}{l:List α}{b:Nat}(h:RowsAt k enc w v l)(hk:Keep b w w')(hb:∀c t f,w.heap[b]? ≠ some (.cells c t f)): RowsAt k enc w' v l:=by
 obtain⟨a,cap,rfl,hm,hx⟩:=h;refine⟨a,cap,rfl,hm,fun hne=>?_⟩;obtain⟨q,off,rfl,hc⟩:=hx hne;refine⟨q,off,rfl,fun i x hi j u hu=>?_⟩;have h1:=hc i x hi j u hu;have h2:=World.block_lt_of_cell? w _ h1
 have hq:q≠b:=by
  rintro rfl;unfold World.cell? at h1;split at h1
  ·rename_i e
   exact hb _ _ _ e
  ·cases h1
 unfold World.cell? at h1 ⊢;simp only at h1 h2 ⊢;rw[hk.2 q h2 hq];exact h1
theorem nodes_keep{w w':World}{v:Value}{l:List Gr.Nd}{b:Nat}(h:NodesAt w v l)(hk:Keep b w w')(hb:∀c t f,w.heap[b]? ≠ some (.cells c t f)): NodesAt w' v l:=by
 obtain⟨lc,h1,h2,h3⟩:=h;exact⟨lc,rows_keep h1 hk hb,h2,fun i c n hc hn=>let q:=h3 i c n hc hn;{ q with f:=rows_keep q.f hk hb,p:=rows_keep q.p hk hb }⟩
theorem map_nocells{κ ν:Type}{S:MSpec κ ν}{W:World}{b n:Nat}{m:List (κ×ν)}(h:MapAt S W b n m): ∀c t f,W.heap[b]? ≠ some (.cells c t f):=by
 obtain⟨D,⟨es,c,h1,-⟩,-⟩:=h;intro c t f e;rw[h1] at e;cases e
structure GatherAt (W:World) (x b n:Nat) (g:List Gr.Nd) (ep:Int) (m:List (Who×AkC)):Prop where
 cells:∃v,W.heap[x]? = some (.cells #[v,.int .i64 ep,.map (some b)] 176)∧NodesAt W v g
 map:MapAt ackS W b n m
 small:Small g
 len:g.length≤8
 so:g.Pairwise fun a b=>a.id<b.id
 right:Gr.RightR g
theorem GatherAt.grew{W W':World}{x b n:Nat}{g:List Gr.Nd}{ep:Int}{m:List (Who×AkC)}(h:GatherAt W x b n g ep m)(q:Grew W W'): GatherAt W' x b n g ep m:=by
 obtain⟨v,h1,h2⟩:=h.cells;exact⟨⟨v,grew_heap q h1,h2.grew q⟩,h.map.grew q,h.small,h.len,h.so,h.right⟩
theorem GatherAt.ne{W:World}{x b n:Nat}{g:List Gr.Nd}{ep:Int}{m:List (Who×AkC)}(h:GatherAt W x b n g ep m): x≠b:=fun e=>by
 obtain⟨v,h1,-⟩:=h.cells;exact map_nocells h.map _ _ _ (e▸h1)
theorem GatherAt.put{W W':World}{x b n n':Nat}{g:List Gr.Nd}{ep:Int}{m m':List (Who×AkC)}(h:GatherAt W x b n g ep m)(hk:Keep b W W')(hm:MapAt ackS W' b n' m'): GatherAt W' x b n' g ep m':=by
 obtain⟨v,h1,h2⟩:=h.cells;exact⟨⟨v,by rw[hk.2 x (heap_lt h1) h.ne];exact h1,nodes_keep h2 hk (map_nocells h.map)⟩,hm,h.small,h.len,h.so,h.right⟩
def tasksOf(g:List Gr.Nd): List Who:=g.flatMap fun n=>(List.range n.par.toNat).map fun(k:Nat)=>(n.id,(k:Int))
theorem tasksOf_snoc(g:List Gr.Nd)(n:Gr.Nd): tasksOf (g++[n])=tasksOf g++(List.range n.par.toNat).map fun(k:Nat)=>(n.id,(k:Int)):=by
 unfold tasksOf;rw[List.flatMap_append,List.flatMap_cons,List.flatMap_nil,List.append_nil]
theorem tasksOf_len:∀(g:List Gr.Nd),(∀n∈g,n.par≤3)→(tasksOf g).length≤g.length*3
 | [],_=>by simp[tasksOf]
 |n::g,h=>by
  have h1:=tasksOf_len g fun x hx=>h x (List.mem_cons_of_mem _ hx)
  have h2:=h n (List.mem_cons_self ..);unfold tasksOf at h1 ⊢;rw[List.flatMap_cons,List.length_append,List.length_map,List.length_range,List.length_cons];omega
theorem perm_so{l l':List Gr.Nd}(hp:l'.Perm l)(h:l.Pairwise fun a b=>a.id<b.id)(h':l'.Pairwise fun a b=>a.id≤b.id): l'=l:=by
 have hu:(l.map (·.id)).Nodup:=by
  rw[List.Nodup,List.pairwise_map];exact h.imp fun {a b} q e=>by omega
 have hu':(l'.map (·.id)).Nodup:=(hp.map (·.id)).nodup_iff.2 hu
 have hs':l'.Pairwise fun a b=>a.id<b.id:=by
  rw[List.Nodup,List.pairwise_map] at hu';exact(h'.and hu').imp fun {a b} ⟨q1,q2⟩=>by omega
 exact hp.eq_of_pairwise (le:=fun a b:Gr.Nd=>a.id<b.id) (fun a b _ _ h1 h2=>by omega) hs' h
theorem norm_so(v:Value)(l:List Gr.Nd)(w:World)(hv:NodesAt w v l)(hs:Small l)(hl:l.length≤19)(ho:l.Pairwise fun a b=>a.id<b.id): Calls Tryz.prog 55 #[v] w (fun e w'=>∃v',e = .returned v'∧NodesAt w' v' l∧Grew w w'):=by
 refine(norm_any v l w hv hs hl).mono ?_;rintro e w' ⟨v',lc,l',rfl,h1,h2,h3,h4,g⟩;obtain rfl:=perm_so h3 ho h4;exact⟨v',rfl,h2.at h1,g⟩
def encWho(x:Who): List Value:=[.int .i64 x.1,.int .i64 x.2]
theorem encWho_len(x:Who): (encWho x).length=2:=rfl
theorem encWho_one(x:Who): ∀u∈encWho x,u.oneCell'=true:=by
 intro u hu;simp[encWho] at hu;rcases hu with rfl|rfl<;>rfl
theorem infoWho:(Tryz.prog.info? 178).map (fun i=>(i.zero,i.size,i.bytes))=some (some (.agg #[.int .i64 0,.int .i64 0]),2,16):=by kernel_rfl
theorem who_at(W:World)(x:Who)(t:TypeId)(b:Nat){c:Array Value}(hc:c=(encWho x).toArray)(hb:b=W.heap.size): ∀j u,(([x]:List Who).flatMap encWho)[j]? = some u→(W.alloc (.cells c t)).cell? ⟨b,j,none⟩=some u:=by
 subst hc;intro j u hu;rw[new_cells W _ t b hb j];simpa using hu
def TasksPost(g:List Gr.Nd)(w:World)(e:Ending)(w':World): Prop:=∃a c,e = .returned (.slice a (tasksOf g).length c)∧OwnAt w.heap.size 178 2 encWho w' (.slice a (tasksOf g).length c) (tasksOf g)∧Grew w w'
theorem snapAll_any(v:Value)(g:List Gr.Nd)(w:World)(hv:NodesAt w v g)(hs:Small g)(hl:g.length≤8)(ho:g.Pairwise fun a b=>a.id<b.id)(hp:∀n∈g,0≤n.par∧n.par≤3): Calls Tryz.prog 129 #[v] w (TasksPost g w):=by
 have HN:=hY fun W (q:Grew w W)=>norm_so v g W (hv.grew q) hs (by omega) ho
 have HP:=hY hp;have HLK:=hY fun k=>tasksOf_len (g.take k) fun n hn=>(hp n (List.mem_of_mem_take hn)).2
 clear hv hs ho hp;go_enter Tryz.func129,Tryz.ntmps129
 go_wp2_with (go_at_call 55;refine(HN.o _ gw).mono ?_;rintro e w1 ⟨v1,rfl,hv1,R1,n1,rfl⟩;obtain⟨a1,c1,rfl,hm1,-⟩:=hv1.openC;(have HV1:=hY hv1);clear hv1)
 have HG1:Hid (Grew w (w.more R1 n1)):=hY gw;generalize hw1:w.more R1 n1=w1 at *;clear hw1
 go_loopg [3,10] g.length (fun gg s3 s10 wr=>∃k:Nat,k≤g.length∧g.length-k≤gg∧s10 = .int .i64 k∧Hid (Grew w1 wr)∧Hid (OwnAt w1.heap.size 178 2 encWho wr s3 (tasksOf (g.take k))))
 case atStart=>exact⟨0,by omega,by omega,rfl,hY (Grew.refl _),hY (OwnAt.nil _)⟩
 case round =>
  obtain⟨k,hk,hgg,rfl,HG,HO⟩:=hrel;by_cases hlt:k<g.length
  ·obtain⟨a',cap',e,-,hx⟩:=(HV1.o.grew HG.o).openC;cases e;obtain⟨b,off,c,rfl,hb,hn,c0,c1,c2,c3,c4,c5,c6,c7,c8,c9,c10,c11,c12⟩:=hx k hlt;obtain⟨p0,p3⟩:=HP.o _ (List.getElem_mem hlt);have HTK:=hY (show tasksOf (g.take (k+1))=_ by rw[List.take_succ_eq_append_getElem hlt,tasksOf_snoc]);have hln:=HLK.o k;rw[List.length_take,Nat.min_eq_left hk] at hln;have hid:=hn.id;have hpar:=hn.par;clear hx hn;generalize g[k]=y at *;obtain⟨cid,kind,af,nf,cf,ap,np,cp,par,r0,r1,r2,r3,r4,r5,r6,r7⟩:=c;simp only at c0 c1 c2 c3 c4 c5 c6 c7 c8 c9 c10 c11 c12 hid hpar;obtain⟨p,hp⟩:∃p:Nat,par=(p:Int):=⟨par.toNat,by omega⟩;subst hp;have HPN:Hid (y.par.toNat=p):=hY (by omega);have hp3:p≤3:=by omega
   have HID:=hY hid;clear hid hpar p0 p3;go_wp2
   go_loopg [3,16] p (fun gg2 s3' s16 wr2=>∃j:Nat,j≤p∧p-j≤gg2∧s16 = .int .i64 j∧Hid (Grew w1 wr2)∧Hid (wr2.heap[wr.heap.size]? = some (.cells #[.int .i64 cid,.int .i64 kind,.slice af nf cf,.slice ap np cp,.int .i64 (p:Int),.int .i64 r0,.int .i64 r1,.int .i64 r2,.int .i64 r3,.int .i64 r4,.int .i64 r5,.int .i64 r6,.int .i64 r7] 52))∧Hid (OwnAt w1.heap.size 178 2 encWho wr2 s3' (tasksOf (g.take k)++(List.range j).map fun(i:Nat)=>(y.id,(i:Int)))))
   case atStart=>exact⟨0,by omega,by omega,rfl,hY (HG.o.trans gw),hY (heap_new_at _ _ _ rfl),hY (by rw[List.range_zero,List.map_nil,List.append_nil];exact OwnAt.grew HO.o gw)⟩
   case round =>
    obtain⟨j,hj,hgg2,rfl,HG2,HB2,HO2⟩:=hrel;by_cases hlt2:j<p
    ·have d0:=cell_of (o:=0) HB2.o;have d4:=cell_of (o:=4) HB2.o;simp at d0 d4;have pd:=Pre.mk (heap_lt HB2.o);have HRS:Hid (((List.range (j+1)).map fun(i:Nat)=>(y.id,(i:Int)))=((List.range j).map fun(i:Nat)=>(y.id,(i:Int)))++[(y.id,(j:Int))]):=hY (by rw[List.range_succ,List.map_append];rfl)
     go_wp2_with (at_builtin;go_loud (refine wpList_ownK (w0:=w1) rfl (.tmp 19) (.tmp 24) 199 _ _ _ _ [(cid,(j:Int))] rfl Tryz.underlying199 infoWho rfl (by decide) encWho_len encWho_one rfl (OwnAt.grew HO2.o gw) (HG2.o.trans gw) rfl (who_at _ _ _ _ rfl (by simp[go_sem])) (by simp;omega) (by decide) (by simp) ?_);intro v7 W7 hA;(have HA:=hY hA);clear hA)
     go_roundg (p-(j+1))
     case measure=>omega
     case rel =>
      obtain⟨q1,q2,q3,q4,q5⟩:=HA.o;refine⟨j+1,by omega,by omega,by go_num,hY q1,hY ?_,hY ?_⟩
      ·rw[q4 _ (by have:=heap_lt HB2.o;simp[go_sem];omega) (OwnAt.other HO2.o HB2.o (by decide))];exact grew_heap gw HB2.o
      ·rw[HRS.o,←List.append_assoc,HID.o];rw[HID.o] at q2;exact q2
    ·obtain rfl:j=p:=by omega
     have d4:=cell_of (o:=4) HB2.o;simp at d4;have pd:=Pre.mk (heap_lt HB2.o);go_wp2
     go_roundg (g.length-(k+1))
     case measure=>omega
     case rel=>exact⟨k+1,by omega,by omega,by go_num,hY (HG2.o.trans gw),hY (by rw[HTK.o,HPN.o];exact OwnAt.grew HO2.o gw)⟩
  ·obtain rfl:k=g.length:=by omega
   have ho:=HO.o;rw[List.take_length] at ho;obtain⟨av,cv,rfl⟩:=(OwnAt.rows ho encWho_len).len;have HO9:=hY ho;clear ho;go_wp2;go_ret;exact⟨_,_,rfl,OwnAt.low HO9.o HG1.o.below.size,HG1.o.trans HG.o⟩
def SlLen(n:Nat)(v:Value)(_:World): Prop:=∃a c,v = .slice a n c
theorem SlLen.st(n:Nat): ∀v w w',SlLen n v w→Grew w w'→SlLen n v w':=fun _ _ _ h _=>h
theorem gather_par{W:World}{x b n:Nat}{g:List Gr.Nd}{ep:Int}{m:List (Who×AkC)}(h:GatherAt W x b n g ep m): ∀n∈g,1≤n.par∧n.par≤3:=fun y hy=>by
 obtain⟨i,hi,e⟩:=List.mem_iff_getElem.1 hy;have:=h.right.ok i y (by rw[List.getElem?_eq_getElem hi,e]);exact⟨this.pr1,this.pr3⟩
theorem missing_any(x b n:Nat)(g:List Gr.Nd)(ep:Int)(m:List (Who×AkC))(w:World)(h:GatherAt w x b n g ep m)(hn:n≤1000): Calls Tryz.prog 74 #[.pointer (some ⟨x,0,none⟩)] w (Gives (.int .i64 ((tasksOf g).length-m.length)) w):=by
 have hgp:=gather_par h;have htl:=tasksOf_len g fun y hy=>(hgp y hy).2
 have hl8:=h.len;have hml:=h.map.len_le;obtain⟨v,hx,hv⟩:=h.cells;have HA:=hY fun W (q:Grew w W)=>snapAll_any v g W (hv.grew q) h.small h.len h.so fun y hy=>by have:=hgp y hy;omega
 have HLEN:=hY fun W (q:Grew w W)=>(h.map.grew q).len Tryz.underlying174 3
 have x0:=cell_of (o:=0) hx;have x2:=cell_of (o:=2) hx;simp at x0 x2;have px:=Pre.mk (heap_lt hx);obtain⟨av,cv,rfl,-,-⟩:=hv.openC;clear h hgp hx hv;go_enter Tryz.func74,Tryz.ntmps74;go_wp2;refine wp_region_seq 13 Tryz.mixed (by kernel_rfl) (by kernel_rfl) ?_
 iterate 4
  apply Seq.val
  focus
   rintro w1 u ⟨R1,n1,rfl⟩ hF;simp[moreFacts,Fact.more,Oper.deps,Region.binds,List.filter_cons,World.more_drew] at hF;simp[putFacts,Oper.deps,Region.binds,List.filter_cons,Region.dstOf,Fact.at,Act.put,World.more_drew];go_wp2;exact⟨gw,rfl,_,_,rfl,rfl,rfl⟩
 apply Seq.of (SlLen (tasksOf g).length) (SlLen.st _)
 focus
  rintro w1 u ⟨R1,n1,rfl⟩ hF;simp[moreFacts,Fact.more,Oper.deps,Region.binds,List.filter_cons,World.more_drew] at hF;simp[putFacts,Oper.deps,Region.binds,List.filter_cons,Region.dstOf,Fact.at,Act.put,World.more_drew]
  go_wp2_with (first
   | (go_at_call 129;go_loud (refine(HA.o _ gw).mono ?_);rintro e w2 ⟨a2,c2,rfl,-,R3,n3,rfl⟩)
   )
  exact⟨gw,rfl,_,_,rfl,rfl,⟨_,_,rfl⟩⟩
 apply Seq.val
 focus
  rintro w1 u ⟨R1,n1,rfl⟩ hF;simp[moreFacts,Fact.more,Oper.deps,Region.binds,List.filter_cons,World.more_drew] at hF;simp[putFacts,Oper.deps,Region.binds,List.filter_cons,Region.dstOf,Fact.at,Act.put,World.more_drew];obtain⟨a2,c2,hu⟩:=hF;rw[hu];go_wp2;exact⟨gw,rfl,_,_,rfl,rfl,rfl⟩
 iterate 4
  apply Seq.val
  focus
   rintro w1 u ⟨R1,n1,rfl⟩ hF;simp[moreFacts,Fact.more,Oper.deps,Region.binds,List.filter_cons,World.more_drew] at hF;simp[putFacts,Oper.deps,Region.binds,List.filter_cons,Region.dstOf,Fact.at,Act.put,World.more_drew];go_wp2;exact⟨gw,rfl,_,_,rfl,rfl,rfl⟩
 apply Seq.val
 focus
  rintro w1 u ⟨R1,n1,rfl⟩ hF;simp[moreFacts,Fact.more,Oper.deps,Region.binds,List.filter_cons,World.more_drew] at hF;simp[putFacts,Oper.deps,Region.binds,List.filter_cons,Region.dstOf,Fact.at,Act.put,World.more_drew];have hlm:=HLEN.o (w.more R1 n1) gw;go_wp2;exact⟨gw,rfl,_,_,rfl,rfl,rfl⟩
 iterate 2
  apply Seq.val
  focus
   rintro w1 u ⟨R1,n1,rfl⟩ hF;simp[moreFacts,Fact.more,Oper.deps,Region.binds,List.filter_cons,World.more_drew] at hF;simp[putFacts,Oper.deps,Region.binds,List.filter_cons,Region.dstOf,Fact.at,Act.put,World.more_drew];go_wp2;exact⟨gw,rfl,_,_,rfl,rfl,rfl⟩
 rintro u w1 ⟨R1,n1,rfl⟩ hF;clear hF;simp[putFacts,Region.dstOf,Fact.at,Act.put,List.range_succ,World.more_drew];go_wp2;go_ret;exact⟨by rfl,gw⟩
theorem right_norm{g:List Gr.Nd}(h:Gr.RightR g): Gr.RightR (Gr.normG g):=h.perm (Gr.normG_perm h.ids h.r7).symm
theorem right_par{g:List Gr.Nd}(h:Gr.RightR g): ∀n∈g,(1≤n.par∧n.par≤3)∧∀t∈n.route,0≤t∧t<n.par:=fun n hn=>by
 obtain⟨i,hi,e⟩:=List.mem_iff_getElem.1 hn;have:=h.ok i n (by rw[List.getElem?_eq_getElem hi,e]);exact⟨⟨this.pr1,this.pr3⟩,this.rt⟩
theorem nodeOf_norm{g:List Gr.Nd}(h:Gr.RightR g)(x:Int): Gr.nodeOf (Gr.normG g) x=Gr.nodeOf g x:=by
 have hp:=Gr.normG_perm h.ids h.r7;exact Gr.bind_perm hp ((Gr.perm_ids hp).nodup_iff.2 h.ids) x
theorem checkR_pos{g:List Gr.Nd}(h:¬Gr.RightR g): (checkR g != 0)=true:=by
 by_cases h8:g.length≤8
 ·rw[checkR_bad h8 h];rfl
 ·rw[checkR_long (by omega)];rfl
theorem checkR_nil{g:List Gr.Nd}(h:Gr.RightR g): checkR g=0:=checkR_ok h.len h
theorem small_norm{g:List Gr.Nd}(h:Gr.RightR g)(hs:Small g): Small (Gr.normG g):=fun n hn=>hs n ((Gr.normG_mem h.ids h.r7 n).1 hn)
theorem normO_any(v:Value)(g:List Gr.Nd)(w:World)(hv:NodesAt w v g)(hs:Small g)(h:Gr.RightR g): Calls Tryz.prog 55 #[v] w (fun e w'=>∃v' lc,e = .returned v'∧NodesOwn w.heap.size w' v' lc∧NodesIn w.heap.size w' lc (Gr.normG g)∧Grew w w'):=by
 refine(norm_any v g w hv hs (by have:=h.len;omega)).mono ?_;rintro e w' ⟨v',lc,l',rfl,h1,h2,h3,h4,gw⟩;obtain rfl:=Gr.norm_unique h3 h4 h.ids h.r7;exact⟨v',lc,rfl,h1,h2,gw⟩
def NodesV(base:Nat)(g:List Gr.Nd)(v:Value)(w:World): Prop:=∃a c lc,v = .slice a g.length c∧NodesOwn base w v lc∧NodesIn base w lc g
theorem NodesV.keep{base:Nat}{g:List Gr.Nd}{v:Value}{w w':World}(h:NodesV base g v w)(hk:∀b,base≤b→b<w.heap.size→w'.heap[b]? = w.heap[b]?): NodesV base g v w':=by
 obtain⟨a,c,lc,h1,h2,h3⟩:=h;refine⟨a,c,lc,h1,OwnAt.same h2 fun b hb=>?_,Rel.mono (fun c n ⟨q1,q2⟩=>?_) h3⟩
 ·obtain⟨q,cs,hc⟩:=OwnAt.block h2 hb;exact hk b q (heap_lt hc)
 ·have q3:=q2.to hk;exact⟨q3.is q1,q3⟩
theorem NodesV.st(base:Nat)(g:List Gr.Nd): ∀v w w',NodesV base g v w→Grew w w'→NodesV base g v w':=fun _ _ _ h q=>h.keep fun b _ hb=>q.below.block b hb
theorem NodesV.low{base base':Nat}{g:List Gr.Nd}{v:Value}{w:World}(h:NodesV base g v w)(hb:base'≤base): NodesV base' g v w:=by
 obtain⟨a,c,lc,h1,h2,h3⟩:=h;exact⟨a,c,lc,h1,OwnAt.low h2 hb,Rel.mono (fun c n ⟨q1,q2⟩=>⟨q1,q2.low hb⟩) h3⟩
theorem NodesV.at'{base:Nat}{g:List Gr.Nd}{v:Value}{w:World}(h:NodesV base g v w): NodesAt w v g:=by
 obtain⟨a,c,lc,h1,h2,h3⟩:=h;exact h3.at h2
theorem norm_len{g:List Gr.Nd}(h:Gr.RightR g): (Gr.normG g).length=g.length:=(Gr.normG_perm h.ids h.r7).length_eq
theorem NodesIn.grow{base:Nat}{w w':World}{lc:List NdC}{l:List Gr.Nd}(h:NodesIn base w lc l)(g:Grew w w'): NodesIn base w' lc l :=
 Rel.mono (fun _ _ q=>⟨q.1.grew g,⟨OwnAt.grew q.2.1 g,OwnAt.grew q.2.2 g⟩⟩) h
theorem newO_any(v:Value)(g:List Gr.Nd)(ep:Int)(w:World)(hv:NodesAt w v g)(hs:Small g)(hr:Gr.RightR g)(he:1≤ep)(he2:ep≤2147483647): Calls Tryz.prog 48 #[v,.int .i64 ep] w fun e w'=>∃x b,e = .returned (.tuple #[.pointer (some ⟨x,0,none⟩),.int .i64 0])∧(∃v lc,w'.heap[x]? = some (.cells #[v,.int .i64 ep,.map (some b)] 176)∧NodesOwn w.heap.size w' v lc∧NodesIn w.heap.size w' lc (Gr.normG g))∧GatherAt w' x b 0 (Gr.normG g) ep []∧w.heap.size≤x∧w.heap.size≤b∧Grew w w':=by
 have HC:=hY fun W (q:Grew w W)=>check_graph v g W (hv.grew q) hs
 have hck:=checkR_nil hr;rw[hck] at HC;have HN:=hY fun W (q:Grew w W)=>normO_any v g W (hv.grew q) hs hr
 have HRN:=hY (right_norm hr);have HSN:=hY (small_norm hr hs);have hl:=hr.len;rw[←norm_len hr] at hl;obtain⟨a,cap,rfl,hm,-⟩:=hv.openC;clear hv hs hr hck;have hmm:=@run_makeMap Tryz.prog;go_enter Tryz.func48,Tryz.ntmps48
 go_wp2_with (first
  | (go_at_call 7;refine(HC.o _ gw).mono ?_;rintro e w1 ⟨rfl,R1,n1,rfl⟩)
  | (go_at_call 55;refine(HN.o _ gw).mono ?_;rintro e w2 ⟨v2,lc2,rfl,ho2,hi2,R2,n2,rfl⟩;(have hv2:=hi2.at ho2);obtain⟨a2,c2,rfl,-,-⟩:=hv2.openC;(have HV2:=hY hv2);(have HO2:=hY ho2);(have HI2:=hY hi2);clear hv2 ho2 hi2))
 go_ret2;refine⟨_,_,rfl,⟨_,lc2,heap_new_at _ _ _ (by simp[go_sem]),OwnAt.grew (OwnAt.low HO2.o (by simp[World.more_size])) gw,NodesIn.grow (Rel.mono (fun _ _ h=>⟨h.1,⟨OwnAt.low h.2.1 (by simp[World.more_size]),OwnAt.low h.2.2 (by simp[World.more_size])⟩⟩) HI2.o) gw⟩,⟨⟨_,heap_new_at _ _ _ (by simp[go_sem]),HV2.o.grew gw⟩,?_,HSN.o,hl,Gr.normG_sorted g,HRN.o⟩,by omega,by omega,gw⟩;have hm:=(MapAt.made ackS ((w.more R1 n1).more R2 n2)).grew gw;rw[World.more_size,World.more_size] at hm;exact MapAt.grew hm ((Grew.refl _).alloc _)
noncomputable def addR(g:List Gr.Nd)(ep:Int)(m:List (Who×AkC))(c:AkC): Int:=match Gr.nodeOf g c.node with
 | none=>12
 | some n=>if c.ix<0∨n.par≤c.ix then 12 else if c.ep≠ep then 1 else if (mfind m (c.node,c.ix)).isSome then 13 else 0
def AddPost(w0 W:World)(x b n:Nat)(g:List Gr.Nd)(ep:Int)(m:List (Who×AkC))(c:AkC)(e:Ending)(W':World): Prop :=
 e = .returned (.int .i64 (addR g ep m c))∧(addR g ep m c≠0→Grew W W')∧(addR g ep m c=0→GatherAt W' x b (n+1) g ep (((c.node,c.ix),c)::m)∧Grew w0 W'∧Keep b W W')
def foundP(r:Option Gr.Nd): Int:=match r with
 | some n=>n.par
 | none=>0
theorem find_found{r:Option Gr.Nd}{w w':World}{e:Ending}(h:GivesFind r w e w'): ∃c:NdC,e = .returned (.tuple #[.agg #[.int .i64 c.id,.int .i64 c.kind,.slice c.af c.nf c.cf,.slice c.ap c.np c.cp,.int .i64 c.par,.int .i64 c.r0,.int .i64 c.r1,.int .i64 c.r2,.int .i64 c.r3,.int .i64 c.r4,.int .i64 c.r5,.int .i64 c.r6,.int .i64 c.r7],.bool r.isSome])∧c.par=foundP r∧Grew w w':=by
 cases r with
 |none =>
  obtain⟨h1,h2⟩:=h
  exact⟨⟨0,0,none,0,0,none,0,0,0,0,0,0,0,0,0,0,0⟩,h1,rfl,h2⟩
 |some n =>
  obtain⟨c,h1,h2,-,h4⟩:=h;exact⟨c,h1,h2.par.symm,h4⟩
def IsFound(b:Bool)(p:Int)(v:Value)(_:World): Prop:=∃c:NdC,v = .tuple #[.agg #[.int .i64 c.id,.int .i64 c.kind,.slice c.af c.nf c.cf,.slice c.ap c.np c.cp,.int .i64 c.par,.int .i64 c.r0,.int .i64 c.r1,.int .i64 c.r2,.int .i64 c.r3,.int .i64 c.r4,.int .i64 c.r5,.int .i64 c.r6,.int .i64 c.r7],.bool b]∧c.par=p
theorem IsFound.st(b:Bool)(p:Int): ∀v w w',IsFound b p v w→Grew w w'→IsFound b p v w':=fun _ _ _ h _=>h
def IsPar(p:Int)(v:Value)(_:World): Prop:=∃c:NdC,v = .agg #[.int .i64 c.id,.int .i64 c.kind,.slice c.af c.nf c.cf,.slice c.ap c.np c.cp,.int .i64 c.par,.int .i64 c.r0,.int .i64 c.r1,.int .i64 c.r2,.int .i64 c.r3,.int .i64 c.r4,.int .i64 c.r5,.int .i64 c.r6,.int .i64 c.r7]∧c.par=p
theorem IsPar.st(p:Int): ∀v w w',IsPar p v w→Grew w w'→IsPar p v w':=fun _ _ _ h _=>h
theorem grew_cellS{W W':World}{a:Addr}{u:Value}(g:Grew W W')(h:W.cell? a=some u): W'.cell? a=some u:=below_keeps g.below a u h
theorem add_any'(w0 W:World)(x b n:Nat)(g:List Gr.Nd)(ep:Int)(m:List (Who×AkC))(c:AkC)(h:GatherAt W x b n g ep m)(hg:Grew w0 W)(hb:w0.heap.size≤b)(hn:n≤1000)(hw:okWho (c.node,c.ix)):
  Calls Tryz.prog 50 #[.pointer (some ⟨x,0,none⟩),akv c] W (AddPost w0 W x b n g ep m c):=by
 have HH:=hY h;have HG:=hY hg;have HW:=hY hw;obtain⟨v,hx,hv⟩:=h.cells;have HF:=hY fun W2 (q:Grew W W2)=>find_any v g c.node W2 (hv.grew q) h.small
 have HLK:=hY fun W2 (q:Grew W W2)=>(h.map.grew q).lookOk _ hw Tryz.underlying174 AkC.zero (zeroAck W2)
 obtain⟨av,cv,rfl,-,-⟩:=hv.openC;have x0:=cell_of (o:=0) hx;have x1:=cell_of (o:=1) hx;have x2:=cell_of (o:=2) hx;simp at x0 x1 x2;have px:=Pre.mk (heap_lt hx);have HX:=hY hx;clear h hg hw hx hv;obtain⟨nd,ix,ce,ae,ne,cae,ax,nx,cax,off⟩:=c;simp only at HF HLK HW;unfold akv;obtain⟨rq,hrq⟩:∃r,Gr.nodeOf g nd=r:=⟨_,rfl⟩;rw[hrq] at HF;have HRQ:=hY hrq;clear hrq;go_enter Tryz.func50,Tryz.ntmps50
 go_upto_region 4 with fail
 go_cut [5,6] (fun s5 s6 wx=>∃B:Nat,s5 = .pointer (some ⟨B,0,none⟩)∧s6 = .bool rq.isSome∧Grew (W.alloc (.cells #[.int .i64 nd,.int .i64 ix,.int .i64 ce,.slice ae ne cae,.slice ax nx cax,.int .i64 off] 55)) wx∧W.heap.size+1≤B∧wx.cell? ⟨B,4,none⟩=some (.int .i64 (foundP rq)))
 case first =>
  go_region_held3 (fun w'=>w'.cell? ⟨x,0,none⟩=some (.slice av g.length cv)∧w'.cell? ⟨W.heap.size,0,none⟩=some (.int .i64 nd)) ((refine⟨?_,?_⟩<;>simp[go_sem, *])) (first
   | (go_simp;go_at_call 76;refine(HF.o _ gw).mono ?_;rintro e w2 h9;obtain⟨c9,rfl,hc9,R3,n3,rfl⟩:=find_found h9;(have HC9:=hY hc9);clear h9 hc9))
  all_goals
   go_wp2_with fail
   go_meet
   refine⟨_,rfl,rfl,gw,by omega,?_⟩;rw[←HC9.o];exact(cell_of (o:=4) (grew_heap gw (heap_new_at _ _ _ (by simp[go_sem])))).trans rfl
 case rest =>
  obtain⟨B,rfl,rfl,hgw,hB,hpar⟩:=hcut;generalize wc=W5 at *;clear wc;have HGW:=hY (((Grew.refl W).alloc (.cells #[.int .i64 nd,.int .i64 ix,.int .i64 ce,.slice ae ne cae,.slice ax nx cax,.int .i64 off] 55)).trans hgw);have hx5:=grew_heap HGW.o HX.o;have hak:W5.heap[W.heap.size]? = some (.cells #[.int .i64 nd,.int .i64 ix,.int .i64 ce,.slice ae ne cae,.slice ax nx cax,.int .i64 off] 55):=grew_heap hgw (heap_new_at _ _ _ rfl);clear x0 x1 x2 px hgw;have x1:=cell_of (o:=1) hx5;have x2:=cell_of (o:=2) hx5;have a0:=cell_of (o:=0) hak;have a1:=cell_of (o:=1) hak;have a2:=cell_of (o:=2) hak;have a3:=cell_of (o:=3) hak;have a4:=cell_of (o:=4) hak;have a5:=cell_of (o:=5) hak;simp at x1 x2 a0 a1 a2 a3 a4 a5;have px:=Pre.mk (heap_lt hx5);have pa:=Pre.mk (heap_lt hak);have pB:=Pre.ofCell hpar;have HX5:=hY hx5;have HAK:=hY hak;have HPAR:=hY hpar;clear hx5 hak;have HM5:=hY fun W2 (q:Grew W5 W2)=>HLK.o W2 (HGW.o.trans q)
  obtain⟨ac,hac⟩:∃ac,(mfind m (nd,ix)).getD AkC.zero=ac:=⟨_,rfl⟩;obtain⟨bq,hbq⟩:∃bq,(mfind m (nd,ix)).isSome=bq:=⟨_,rfl⟩;rw[hac,hbq] at HM5;obtain⟨d0,d1,d2,d3,d4,d5,d6,d7,d8,d9⟩:=ac;have HBQ:=hY hbq;clear hac hbq;have hl1:=HM5.o ((W5.alloc (.cells #[.int .i64 nd,.int .i64 ix] 178)).drew) gw;have hl2:=fun o=>HM5.o (((W5.alloc (.cells #[.int .i64 nd,.int .i64 ix] 178)).alloc o).drew) gw
  simp only[ackS,whK,akv] at hl1 hl2
  go_upto_region 5 with fail
  go_cut [8,9] (fun s8 s9 wx=>s9 = .bool bq∧Grew (W5.alloc (.cells #[.int .i64 nd,.int .i64 ix] 178)) wx)
  case first =>
   go_region_held3 (fun w'=>w'.cell? ⟨x,2,none⟩=some (.map (some b))∧w'.cell? ⟨W5.heap.size,0,none⟩=some (.int .i64 nd)∧w'.cell? ⟨W5.heap.size,1,none⟩=some (.int .i64 ix)) ((refine⟨?_,?_,?_⟩<;>simp[go_sem, *])) (fail)
   all_goals
    go_wp2_with fail
    go_meet
    exact⟨rfl,gw⟩
  case rest =>
   obtain⟨rfl,hg6⟩:=hcut;have HG6:=hY (((Grew.refl W5).alloc (.cells #[.int .i64 nd,.int .i64 ix] 178)).trans hg6);have hwh:wc.heap[W5.heap.size]? = some (.cells #[.int .i64 nd,.int .i64 ix] 178):=grew_heap hg6 (heap_new_at _ _ _ rfl);have HWH:=hY hwh;generalize wc=W6 at *;clear wc hl1 hl2 hg6 hwh;clear x1 x2 a0 a1 a2 a3 a4 a5 px pa pB hpar;have HG9:=hY (HGW.o.trans HG6.o);have hx6:=grew_heap HG6.o HX5.o;have hak6:=grew_heap HG6.o HAK.o;have hpar:=grew_cellS HG6.o HPAR.o;have x1:=cell_of (o:=1) hx6;have x2:=cell_of (o:=2) hx6;have a0:=cell_of (o:=0) hak6;have a1:=cell_of (o:=1) hak6;have a2:=cell_of (o:=2) hak6;have a3:=cell_of (o:=3) hak6;have a4:=cell_of (o:=4) hak6;have a5:=cell_of (o:=5) hak6;have b0:=cell_of (o:=0) HWH.o;have b1:=cell_of (o:=1) HWH.o;simp at x1 x2 a0 a1 a2 a3 a4 a5 b0 b1;have px:=Pre.mk (heap_lt hx6);have pa:=Pre.mk (heap_lt hak6);have pB:=Pre.ofCell hpar;have pw:=Pre.mk (heap_lt HWH.o);clear hx6 hak6
   cases rq with
   |none =>
    have hR:addR g ep m ⟨nd,ix,ce,ae,ne,cae,ax,nx,cax,off⟩=12:=by unfold addR;simp only;rw[HRQ.o]
    have HR:=hY hR;clear hR;go_wp2;go_ret
    exact⟨by rw[HR.o];rfl,fun _=>HG9.o,fun q=>by rw[HR.o] at q;cases q⟩
   |some y =>
    have hRd:addR g ep m ⟨nd,ix,ce,ae,ne,cae,ax,nx,cax,off⟩=if ix<0∨y.par≤ix then 12 else if ce≠ep then 1 else if bq=true then 13 else 0:=by unfold addR;simp only;rw[HRQ.o,←HBQ.o]
    have hfp:foundP (some y)=y.par:=rfl;rw[hfp] at hpar;generalize y.par=p at *;by_cases h1:ix<0
    ·have HR:=hY (hRd.trans (if_pos (.inl h1)));clear hRd;go_wp2;go_ret;exact⟨by rw[HR.o];rfl,fun _=>HG9.o,fun q=>by rw[HR.o] at q;cases q⟩
    by_cases h2:p≤ix
    ·have HR:=hY (hRd.trans (if_pos (.inr h2)));clear hRd;go_wp2;go_ret;exact⟨by rw[HR.o];rfl,fun _=>HG9.o,fun q=>by rw[HR.o] at q;cases q⟩
    have hRd2:=hRd.trans (if_neg (fun q=>q.elim h1 h2));clear hRd;by_cases h3:ce=ep
    case neg =>
     have HR:=hY (hRd2.trans (if_pos h3));have hb3:(ce != ep)=true:=by simpa using h3
     clear hRd2 h3;go_wp2;refine wp_region_seq 8 Tryz.mixed (by kernel_rfl) (by kernel_rfl) ?_
     iterate 8
      apply Seq.val
      focus
       rintro w1 u ⟨R1,n1,rfl⟩ hF;simp[moreFacts,Fact.more,Oper.deps,Region.binds,List.filter_cons,World.more_drew] at hF;simp[putFacts,Oper.deps,Region.binds,List.filter_cons,Region.dstOf,Fact.at,Act.put,World.more_drew];go_wp2;exact⟨gw,rfl,_,_,rfl,rfl,rfl⟩
     rintro u w1 ⟨R1,n1,rfl⟩ hF;clear hF;simp[putFacts,Region.dstOf,Fact.at,Act.put,List.range_succ,World.more_drew];go_wp2;go_ret;exact⟨by rw[HR.o];rfl,fun _=>HG9.o.trans gw,fun q=>by rw[HR.o] at q;cases q⟩
    subst h3;have hRd3:=hRd2.trans (if_neg (fun q=>q rfl));clear hRd2;cases bq
    case true =>
     have HR:=hY (hRd3.trans (if_pos rfl));clear hRd3;go_wp2;refine wp_region_seq 8 Tryz.mixed (by kernel_rfl) (by kernel_rfl) ?_
     iterate 8
      apply Seq.val
      focus
       rintro w1 u ⟨R1,n1,rfl⟩ hF;simp[moreFacts,Fact.more,Oper.deps,Region.binds,List.filter_cons,World.more_drew] at hF;simp[putFacts,Oper.deps,Region.binds,List.filter_cons,Region.dstOf,Fact.at,Act.put,World.more_drew];go_wp2;exact⟨gw,rfl,_,_,rfl,rfl,rfl⟩
     rintro u w1 ⟨R1,n1,rfl⟩ hF;clear hF;simp[putFacts,Region.dstOf,Fact.at,Act.put,List.range_succ,World.more_drew];go_wp2;go_ret;exact⟨by rw[HR.o];rfl,fun _=>HG9.o.trans gw,fun q=>by rw[HR.o] at q;cases q⟩
    have HR:=hY (hRd3.trans (if_neg (by decide)))
    have HNO:Hid (∀z∈m,z.1≠(nd,ix)):=hY (by
     rcases mfind_cases m (nd,ix) with ⟨v,q1,q2⟩|⟨q1,q2⟩
     ·have:=HBQ.o;rw[q1] at this;cases this
     ·exact q2)
    clear hRd3;go_wp2;refine wp_region_seq 8 Tryz.mixed (by kernel_rfl) (by kernel_rfl) ?_
    iterate 8
     apply Seq.val
     focus
      rintro w1 u ⟨R1,n1,rfl⟩ hF;simp[moreFacts,Fact.more,Oper.deps,Region.binds,List.filter_cons,World.more_drew] at hF;simp[putFacts,Oper.deps,Region.binds,List.filter_cons,Region.dstOf,Fact.at,Act.put,World.more_drew];go_wp2;exact⟨gw,rfl,_,_,rfl,rfl,rfl⟩
    rintro u w1 ⟨R1,n1,rfl⟩ hF;clear hF;simp[putFacts,Region.dstOf,Fact.at,Act.put,List.range_succ,World.more_drew];go_wp2;refine wp_region_seq 6 Tryz.mixed (by kernel_rfl) (by kernel_rfl) ?_
    iterate 6
     apply Seq.val
     focus
      rintro w1 u ⟨R1,n1,rfl⟩ hF;simp[moreFacts,Fact.more,Oper.deps,Region.binds,List.filter_cons,World.more_drew] at hF;simp[putFacts,Oper.deps,Region.binds,List.filter_cons,Region.dstOf,Fact.at,Act.put,World.more_drew];go_wp2;exact⟨gw,rfl,_,_,rfl,rfl,rfl⟩
    rintro u w1 ⟨R1,n1,rfl⟩ hF;clear hF;simp[putFacts,Region.dstOf,Fact.at,Act.put,List.range_succ,World.more_drew];refine wpList_mapPut (S:=ackS) (w0:=w0) (M:=m) rfl (.tmp 64) (.tmp 65) (.tmp 66) 174 rfl Tryz.underlying174 ((HG.o.trans HG9.o).trans gw) hb rfl ((HH.o.grew HG9.o).map.grew gw) (by unfold maxLen;omega) (nd,ix) ⟨nd,ix,ce,ae,ne,cae,ax,nx,cax,off⟩ HW.o HNO.o rfl rfl ?_;intro W7 h7 g7 k7;have H7:=hY h7;have G7:=hY g7;have K7:=hY k7;clear h7 g7 k7;go_wp2;go_ret;refine⟨by rw[HR.o];rfl,fun q=>absurd HR.o q,fun _=>⟨GatherAt.put (HH.o.grew HG9.o |>.grew gw) K7.out H7.o,G7.out,(Keep.ofGrew (HG9.o.trans gw)).trans K7.out⟩⟩
def encAk(c:AkC): List Value:=[.int .i64 c.node,.int .i64 c.ix,.int .i64 c.ep,.slice c.ae c.ne c.ce,.slice c.ax c.nx c.cx,.int .i64 c.off]
abbrev AcksAt(w:World)(v:Value)(l:List AkC): Prop:=RowsAt 6 encAk w v l
theorem AcksAt.open6{w:World}{v:Value}{l:List AkC}(h:AcksAt w v l): ∃a cap,v = .slice a l.length cap∧l.length≤9223372036854775807∧∀i (hi:i<l.length),∃b off,a=some ⟨b,off,none⟩∧Pre b w ∧
  w.cell? ⟨b,off+i*6,none⟩=some (.int .i64 l[i].node)∧w.cell? ⟨b,off+i*6+1,none⟩=some (.int .i64 l[i].ix)∧w.cell? ⟨b,off+i*6+2,none⟩=some (.int .i64 l[i].ep) ∧
  w.cell? ⟨b,off+i*6+3,none⟩=some (.slice l[i].ae l[i].ne l[i].ce)∧w.cell? ⟨b,off+i*6+4,none⟩=some (.slice l[i].ax l[i].nx l[i].cx)∧w.cell? ⟨b,off+i*6+5,none⟩=some (.int .i64 l[i].off):=by
 obtain⟨a,cap,rfl,hm,hx⟩:=h;refine⟨a,cap,rfl,by unfold maxLen at hm;omega,fun i hi=>?_⟩;obtain⟨b,off,rfl,hc⟩:=hx (by intro e;subst e;simp at hi);have hj:=fun j u=>hc i l[i] (List.getElem?_eq_getElem hi) j u
 have h0:=hj 0 _ rfl;exact⟨b,off,rfl,Pre.mk (World.block_lt_of_cell? w _ h0),h0,hj 1 _ rfl,hj 2 _ rfl,hj 3 _ rfl,hj 4 _ rfl,hj 5 _ rfl⟩
end Go.Proofs.YtipgfjihdglocaaGreat
