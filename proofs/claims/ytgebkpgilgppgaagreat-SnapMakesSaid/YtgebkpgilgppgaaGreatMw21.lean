import Derived.Test.YtgebkpgilgppgaaGreatMw11
import Derived.Test.YtgebkpgilgppgaaGreatMw17
import Derived.Test.YtgebkpgilgppgaaGreatMw7
import Derived.Test.YtgebkpgilgppgaaGreatMw10
import Derived.Deep.LoopGhost
import Derived.Maps.RangeWalk
import Derived.Test.YtgebkpgilgppgaaGreatMw5
import Derived.Deep.QuietTactic
import Derived.BigQuiet
import Derived.Deep.RegionHeld3
import Derived.Test.YtgebkpgilgppgaaGreatMw15
import Derived.Test.YtgebkpgilgppgaaGreatMw12
set_option linter.unusedSimpArgs false
set_option linter.unusedVariables false
set_option maxRecDepth 100000
set_option maxHeartbeats 64000000
namespace Go.Proofs.YtgebkpgilgppgaaGreat
open Go.RowKit Ga
abbrev Sm:={ x:Tab.En // CF x }
instance:Inhabited Sm:=⟨⟨⟨0,0,(0,0),(0,0)⟩,⟨by decide,by decide⟩,⟨by decide,by decide⟩⟩⟩
def PZ(x:Sm): List Value:=Ci x.1
theorem LF(x:Sm): (PZ x).length=6:=rfl
def M4(x y:Sm): Int:=(x.1.node-y.1.node)*64+x.1.key-y.1.key
theorem Xq(x y:Sm): M4 x y=Tab.num x.1-Tab.num y.1:=by unfold M4 Tab.num;omega
theorem A12(x y:Sm): ltOf M4 x y=decide (Tab.num x.1<Tab.num y.1):=by
 unfold ltOf;rw[Xq];exact decide_eq_decide.2 (by omega)
theorem A37:Sort.SWO (ltOf M4):=by
 refine⟨fun x=>?_,fun x y z h1 h2=>?_,fun x y z h1 h2=>?_⟩
 ·rw[A12];simp
 ·rw[A12] at *;simp only[decide_eq_true_eq] at *;omega
 ·rw[A12] at *;simp only[decide_eq_false_iff_not] at *;omega
theorem Xr(x y:Sm)(W:World): Calls Tryz.prog 115 #[.agg (PZ x).toArray,.agg (PZ y).toArray] W fun e w'=>e = .returned (.int .i64 (M4 x y))∧∃q os',w'=Sort.grow (W.drewN q) os':=by
 obtain⟨⟨n1,k1,⟨a1,b1⟩,⟨c1,d1⟩⟩,⟨h1,h2⟩,h3,h4⟩:=x;obtain⟨⟨n2,k2,⟨a2,b2⟩,⟨c2,d2⟩⟩,⟨g1,g2⟩,g3,g4⟩:=y;simp only at h1 h2 h3 h4 g1 g2 g3 g4;unfold M4;simp only;show Calls Tryz.prog _ #[.agg #[.int .i64 n1,.int .i64 k1,.int .i64 a1,.int .i64 b1,.int .i64 c1,.int .i64 d1],.agg #[.int .i64 n2,.int .i64 k2,.int .i64 a2,.int .i64 b2,.int .i64 c2,.int .i64 d2]] W _;go_enter Tryz.func115,Tryz.ntmps115;go_wp2;go_ret;exact⟨rfl,0,_,by rw[Sort.alloc_eq_grow,Sort.alloc_eq_grow,Sort.grow_grow];rfl⟩
theorem Xt:∀args w,(callFunc 115 args).run Tryz.prog w = .ok (.enter 115 args) w:=enters_of Tryz.func115 (by kernel_rfl) rfl
def Xu(base:Nat)(W:World)(v:Value)(l:List Tab.En)(e:Ending)(w':World): Prop :=
 e = .returned (.tuple #[])∧∃l',OwnAt base 57 6 Ci w' v l'∧l'.Perm l∧(l'.Pairwise fun a b=>Tab.num a≤Tab.num b)∧(∀q,q<W.heap.size→v.ownBlock≠some q→w'.heap[q]? = W.heap[q]?)∧W.heap.size≤w'.heap.size∧(∀w0,AA w0 W→w0.heap.size≤base→AA w0 w')
theorem A27{base:Nat}{W:World}{v:Value}{ls:List Sm}: OwnAt base 57 6 PZ W v ls↔OwnAt base 57 6 Ci W v (ls.map (·.1)):=by
 unfold OwnAt;rw[List.length_map,List.flatMap_map];exact Iff.rfl
theorem Wo:∀(l:List Tab.En),(∀x∈l,CF x)→∃ls:List Sm,l=ls.map (·.1)
 | [],_=>⟨[],rfl⟩
 |x::l,h=>by
  obtain⟨ls,e⟩:=Wo l fun y hy=>h y (List.mem_cons_of_mem _ hy)
  exact⟨⟨x,h x (List.mem_cons_self ..)⟩::ls,by rw[List.map_cons,←e]⟩
theorem KM(base:Nat)(W:World)(v:Value)(l:List Tab.En)(h:OwnAt base 57 6 Ci W v l)(hth:∀x∈l,CF x)(hl:l.length≤1000000):
  Calls Tryz.prog 114 #[v,.func (.func 115) #[] #[]] W (Xu base W v l):=by
 rcases OwnAt.form h with ⟨rfl,hn⟩|⟨b,cap,rfl,hb,hc,hm⟩
 ·subst hn;have h1:Calls Tryz.prog 114 #[.slice none 0 0,.func (.func 115) #[] #[]] W _:=Rj (.func (.func 115) #[] #[]) W;refine h1.mono fun e w' ⟨he,hw⟩=>?_
  subst hw;exact⟨he,[],h,List.Perm.refl _,List.Pairwise.nil,fun _ _ _=>rfl,Nat.le_refl _,fun _ g _=>g⟩
 ·obtain⟨ls,rfl⟩:=Wo l hth;rw[List.length_map] at hl hc ⊢;have ho:=A27.2 h;rw[List.length_map] at ho;obtain⟨hh,hb1,hb2⟩:=Tc LF (by decide) ho;have hcon:=AnyQ.slices_SortFunc Tryz.sortEnt 6 Tryz.isAgg57 Tryz.sizeOf57 PZ LF (fun x=>E5 x.1) M4 A37 115 #[] b 0 cap ls.toArray W Xt (fun m os dk _ x y=>Xr x y _) hh hb2 (by simp;omega);have hcon2:Calls Tryz.prog 114 #[.slice (some ⟨b,0,none⟩) ls.length cap,.func (.func 115) #[] #[]] W _:=hcon;refine hcon2.mono fun e w' ⟨he,d',n,os,hp,hs,hw⟩=>?_
  obtain⟨p1,p2,p3⟩:=hp;have hsz:d'.size=ls.length:=by rw[p1];simp
  have hperm:d'.toList.Perm ls:=by
   have e1:d'.extract 0 ls.toArray.size=d':=by rw[show ls.toArray.size=d'.size from by rw[p1]];simp
   have e2:ls.toArray.extract 0 ls.toArray.size=ls.toArray:=by simp
   rw[e1,e2] at p3;exact p3
  obtain⟨q1,q2,q3⟩:=Td (m:=n) (os:=os) (lc':=d'.toList) LF (by decide) ho (by simpa using hsz);have hw2:w'=sortWorldK PZ 6 W b 0 n d'.toList.toArray os:=by rw[hw]
  rw[←hw2] at q1 q2 q3;refine⟨he,d'.toList.map (·.1),A27.1 q1,hperm.map _,?_,fun q hq hne=>q2 q hq fun e=>hne (by rw[e];rfl),q3,fun w0 g hb0=>?_⟩
  ·rw[List.pairwise_map,List.pairwise_iff_getElem];intro i j hi hj hij;have hi':i<d'.size:=by simpa using hi
   have hj':j<d'.size:=by simpa using hj
   have h5:=hs i j (Nat.zero_le _) hij (by rw[←p1];exact hj');rw[getElem!_pos d' i hi',getElem!_pos d' j hj',A12] at h5;simp only[decide_eq_false_iff_not,Array.getElem_toList] at h5 ⊢;omega
  ·rw[hw2];unfold sortWorldK Sort.putRowK;exact Qv (KY (GM g _) (by omega)) _
theorem Um{l:List Tab.En}(h:∀x∈l,CF x)(hu:l.Pairwise fun a b=>Tab.num a≠Tab.num b): l.length≤512:=by
 have hn:(l.map fun x=>(Tab.num x).toNat).Nodup:=by
  rw[List.nodup_iff_pairwise_ne,List.pairwise_map];refine(List.pairwise_iff_forall_sublist.2 fun {a b} hs=>?_);have hab:=(List.pairwise_iff_forall_sublist.1 hu) hs;have ha:=h a (hs.subset (List.mem_cons_self ..));have hb:=h b (hs.subset (List.mem_cons_of_mem _ (List.mem_cons_self ..)));unfold CF at ha hb;unfold Tab.num at *;omega
 have h2:=List.Nodup.length_le_of_subset (l₂:=List.range 512) hn fun y hy=>by
  obtain⟨x,hx,rfl⟩:=List.mem_map.1 hy;have hx':=h x hx;unfold CF at hx';unfold Tab.num;rw[List.mem_range];omega
 simpa using h2
theorem We{m:List Tab.En}(hu:m.Pairwise fun a b=>Tab.num a≠Tab.num b){x y:Tab.En}(hx:x∈m)(hy:y∈m)(h:Tab.num x=Tab.num y): x=y:=by
 obtain⟨i,hi,rfl⟩:=List.mem_iff_getElem.1 hx;obtain⟨j,hj,rfl⟩:=List.mem_iff_getElem.1 hy;have hp:=List.pairwise_iff_getElem.1 hu;rcases Nat.lt_trichotomy i j with h3|h3|h3
 ·exact absurd h (hp i j hi hj h3)
 ·subst h3;rfl
 ·exact absurd h.symm (hp j i hj hi h3)
structure Seen (D:DataW Unit) (m lo:List Tab.En) (left:Lit→Bool):Prop where
 un:lo.Pairwise fun a b=>Tab.num a≠Tab.num b
 sub:∀x∈lo,x∈m
 all:∀x∈m,∀kl,keyOf Tryz.prog 157 (L9 x.node x.key)=some kl→left kl=false→x∈lo
 out:∀x∈lo,∀kl,keyOf Tryz.prog 157 (L9 x.node x.key)=some kl→left kl=false
 has:∀kl,left kl=true→Maps.has D kl=true
theorem Seen.start{D:DataW Unit}{m:List Tab.En}(h:Mk D m): Seen D m [] (Maps.has D) :=
 ⟨List.Pairwise.nil,fun x hx=>(by cases hx),fun x hx kl hk hl=>(by rw[(h.at' x hx kl hk).1] at hl;cases hl),fun x hx=>(by cases hx),fun kl h=>h⟩
theorem Seen.next{D:DataW Unit}{m lo:List Tab.En}{left:Lit→Bool}(h:Seen D m lo left)(hD:Mk D m){n k:Int}{c0 c1:Val}{kl:Lit}{y:DataW Unit×List MemPlace}(hk:keyOf Tryz.prog 157 (L9 n k)=some kl)(hl:left kl=true)(hR:ceR (Xl c0 c1)=some y)(hat:∀zd,D.atKey kl zd=y.1):
  Seen D m (lo++[⟨n,k,c0,c1⟩]) (fun z=>left z && !z.sameKey kl):=by
 obtain⟨p,hp,hpk⟩:=hD.has kl (h.has kl hl);obtain⟨e1,e2⟩:=Qd (Cz.inj hpk hk);have h3:=(hD.at' p hp kl hpk).2 (.agg []);rw[hat,←Option.some.inj hR] at h3;obtain⟨e3,e4⟩:=PU h3;obtain⟨pn,pk,p0,p1⟩:=p;simp only at e1 e2 e3 e4;subst e1 e2 e3 e4;have hself:kl.sameKey kl=true:=WideAt.sameKey_self (Cz.key hk);refine⟨?_,fun x hx=>?_,fun x hx k2 hk2 hl2=>?_,fun x hx k2 hk2=>?_,fun k2 hk2=>?_⟩
 ·rw[List.pairwise_append];refine⟨h.un,List.pairwise_singleton _ _,fun a ha b hb e=>?_⟩;rw[List.mem_singleton] at hb;subst hb;obtain⟨ka,hka⟩:=(hD.there a (h.sub a ha)).kl;have h5:=h.out a ha ka hka;rw[(Ez (hD.there a (h.sub a ha)) (hD.there _ hp) hka hk).2 e,hl] at h5;cases h5
 ·rcases List.mem_append.1 hx with h1|h1
  ·exact h.sub x h1
  ·rw[List.mem_singleton] at h1;subst h1;exact hp
 ·cases hq:left k2
  ·exact List.mem_append_left _ (h.all x hx k2 hk2 hq)
  ·rw[hq] at hl2;have h6:k2.sameKey kl=true:=by simpa using hl2
   have h7:k2=kl:=WideAt.sameKey_eq h6;subst h7;have h8:=We hD.un hx hp ((Ez (hD.there x hx) (hD.there _ hp) hk2 hk).1 rfl);rw[h8];exact List.mem_append_right _ (List.mem_singleton.2 rfl)
 ·rcases List.mem_append.1 hx with h1|h1
  ·rw[h.out x h1 k2 hk2];rfl
  ·rw[List.mem_singleton] at h1;subst h1;have h9:k2=kl:=Option.some.inj (hk2.symm.trans hk);subst h9;rw[hself];simp
 ·simp only[Bool.and_eq_true] at hk2;exact h.has k2 hk2.1
theorem Seen.done{D:DataW Unit}{m lo:List Tab.En}{left:Lit→Bool}(h:Seen D m lo left)(hD:Mk D m)(h0:∀kl,left kl=false): lo.Perm m:=by
 have hn:∀{l:List Tab.En},(l.Pairwise fun a b=>Tab.num a≠Tab.num b)→l.Nodup:=fun hp=>by
  rw[List.nodup_iff_pairwise_ne];exact hp.imp fun h e=>h (by rw[e])
 rw[List.perm_ext_iff_of_nodup (hn h.un) (hn hD.un)];intro x;refine⟨h.sub x,fun hx=>?_⟩;obtain⟨kl,hk⟩:=(hD.there x hx).kl;exact h.all x hx kl hk (h0 kl)
abbrev Ea(W:World)(b r n:Nat)(D:DataW Unit)(left:Lit→Bool)(cnt:Nat): Prop:=W.ranges Tryz.prog 157 ceR b r n D left cnt
theorem KJ{W W':World}{b r n:Nat}{D:DataW Unit}{left:Lit→Bool}{cnt:Nat}(h:Ea W b r n D left cnt)(hb:W'.heap[b]? = W.heap[b]?)(hr:W'.heap[r]? = W.heap[r]?): Ea W' b r n D left cnt:=by
 obtain⟨es,clock,since,seen,c0,h1,h2,h3,h4,h5,h6⟩:=h;exact⟨es,clock,since,seen,c0,hb.trans h1,h2,h3,h4,hr.trans h5,h6⟩
theorem Gg{W:World}{b r n:Nat}{D:DataW Unit}{left:Lit→Bool}{cnt:Nat}(h:Ea W b r n D left cnt): b<W.heap.size∧r<W.heap.size:=by
 obtain⟨es,clock,since,seen,c0,h1,h2,h3,h4,h5,h6⟩:=h;exact⟨AB h1,AB h5⟩
theorem Gh{W W':World}{b r n:Nat}{D:DataW Unit}{left:Lit→Bool}{cnt:Nat}(h:Ea W b r n D left cnt)(g:AA W W'): Ea W' b r n D left cnt :=
 KJ h (g.below.block b (Gg h).1) (g.below.block r (Gg h).2)
theorem Fu{W:World}{b r n:Nat}{D:DataW Unit}{left:Lit→Bool}{cnt:Nat}(h:Ea W b r n D left cnt){α:Type}{base:Nat}{e:TypeId}{k:Nat}{enc:α→List Value}{v:Value}{l:List α}(ho:OwnAt base e k enc W v l): v.ownBlock≠some b∧v.ownBlock≠some r:=by
 obtain⟨es,clock,since,seen,c0,h1,h2,h3,h4,h5,h6⟩:=h;constructor
 ·intro hv;obtain⟨_,cs,hc⟩:=OwnAt.block ho hv;rw[h1] at hc;cases hc
 ·intro hv;obtain⟨_,cs,hc⟩:=OwnAt.block ho hv;rw[h5] at hc;cases hc
theorem L6{W W' w0:World}{b r n:Nat}{D:DataW Unit}{left:Lit→Bool}{cnt:Nat}(h:Ea W b r n D left cnt){α:Type}{base:Nat}{e:TypeId}{k:Nat}{enc:α→List Value}{v v':Value}{l l2:List α}(ho:OwnAt base e k enc W v l)(hA:Ap w0 e k enc W v l2 v' W'): Ea W' b r n D left cnt :=
 KJ h (hA.2.2.2.1 b (Gg h).1 (Fu h ho).1) (hA.2.2.2.1 r (Gg h).2 (Fu h ho).2)
theorem PT(key:Value)(kl:Lit)(h:keyOf Tryz.prog 157 key=some kl): ∃x:Int×Int,key=L9 x.1 x.2:=by
 have h2:key.formed Tryz.prog 157=true∧∃ls,Tryz.prog.keyLits (Tryz.prog.types.size+1) 157 key.cells.toList=some ls:=by
  unfold keyOf at h;simp only[Tryz.underlying157] at h;split at h
  ·rename_i hc
   simp only[Bool.and_eq_true] at hc;obtain⟨ls,hls,_⟩:=Option.map_eq_some_iff.1 h;exact⟨hc.2,ls,hls⟩
  ·cases h
 obtain⟨hf,ls,hls⟩:=h2;obtain⟨m,hm⟩:=Nat.exists_eq_succ_of_ne_zero Zm
 have hint:∀(c:Value) (l:List Lit),Tryz.prog.keyLits (m+1) 3 [c]=some l→∃n:Int,c = .int .i64 n:=by
  intro c l hc;unfold Program.keyLits at hc;simp only[Tryz.underlying3] at hc;cases c<;>simp at hc
  rename_i k n
  obtain⟨⟨rfl,_⟩,_⟩:=hc;exact⟨n,rfl⟩
 cases key with
 |agg cs =>
  obtain⟨cs⟩:=cs
  have hsz:cs.length=2:=by
   simp[Value.formed,Tryz.underlying157,Un] at hf;exact hf
  match cs,hsz with
  |[c0,c1],_ =>
   rw[hm] at hls;unfold Program.keyLits at hls;simp[Tryz.underlying157,Un,Qe,Value.cells] at hls;obtain⟨l0,h0,h1⟩:=Option.bind_eq_some_iff.1 hls;obtain⟨_,h3,_⟩:=Option.map_eq_some_iff.1 h1;obtain⟨_,h4,_⟩:=Option.bind_eq_some_iff.1 h3;obtain⟨l1,h5,_⟩:=Option.bind_eq_some_iff.1 h4;obtain⟨n0,rfl⟩:=hint _ _ h0;obtain⟨n1,rfl⟩:=hint _ _ h5
   exact⟨(n0,n1),rfl⟩
 | _=>simp[Value.formed,Tryz.underlying157] at hf
theorem Wi(v:Value)(y:DataW Unit×List MemPlace)(h:ceR v=some y): ∃c:Val×Val,v=Xl c.1 c.2:=let ⟨c,e,_⟩:=Wl h;⟨c,e⟩
theorem Mv:(Tryz.prog.info? 57).map (fun i=>(i.zero,i.size,i.bytes))=some (some (.agg #[.int .i64 0,.int .i64 0,.int .i64 0,.int .i64 0,.int .i64 0,.int .i64 0]),6,48):=by kernel_rfl
theorem Wj(W:World)(x:Tab.En)(t:TypeId)(b:Nat){c:Array Value}(hc:c=(Ci x).toArray)(hb:b=W.heap.size): ∀j u,(([x]:List Tab.En).flatMap Ci)[j]? = some u→(W.alloc (.cells c t)).cell? ⟨b,j,none⟩=some u:=by
 subst hc;intro j u hu;rw[DL W _ t b hb j];simpa using hu
theorem Xk(n k:Int)(w:World): Calls Tryz.prog 83 #[.agg #[.int .i64 n,.int .i64 k]] w (Ac (.bool true) w):=by
 go_enter Tryz.func83,Tryz.ntmps83;go_wp2;go_ret;exact⟨rfl,gw⟩
def Mo(m:List Tab.En)(w:World)(e:Ending)(w':World): Prop:=∃v s,e = .returned v∧OwnAt w.heap.size 57 6 Ci w' v s∧s.Perm m∧(s.Pairwise fun a b=>Tab.num a≤Tab.num b)∧AA w w'
theorem Rx(W:World)(t b n:Nat)(m:List Tab.En)(hT:Au W t b n m): Calls Tryz.prog 82 #[.pointer (some ⟨t,0,none⟩),.func (.func 83) #[] #[]] W (Mo m W):=by
 have tc:=cell_of (o:=0) hT.1;simp at tc;have pt:=Ad.mk (AB hT.1);obtain⟨D,ho,hD⟩:=hT.2;have HO:=hY ho;have HD:=hY hD;have hbW:=ho.lt;clear hT ho hD;go_enter Tryz.func82,Tryz.ntmps82
 go_wp2_with (at_range;refine wpList_range_own _ rfl (.tmp 13) 178 rfl 157 52 Cz Tryz.underlying178 ceR b n D rfl HO.o ?_;intro W1 hr1 hg1 hs1;(have HR1:=hY hr1);(have HG1:=hY ((AA.refl W).grown hg1 fun q hq=>by cases hq));clear hr1 hg1 hs1)
 go_simp
 go_loopg [5] (Maps.size D) (fun gg s5 wr=>∃(left:Lit→Bool) (cnt:Nat) (lo:List Tab.En) (vk:Value),cnt≤gg∧vk=s5∧Hid (OwnAt W.heap.size 57 6 Ci wr vk lo)∧Hid (Ea wr b W.heap.size n D left cnt)∧Hid (AA W wr)∧Hid (Seen D m lo left))
 case atStart=>exact⟨_,_,[],_,Nat.le_refl _,rfl,hY (OwnAt.nil _),HR1,HG1,hY (Seen.start HD.o)⟩
 case round =>
  obtain⟨left,cnt,lo,vk,hgg,rfl,HOW,HRG,HG,HS⟩:=hrel;have h512:=Um (fun x hx=>HD.o.there x (HS.o.sub x hx)) HS.o.un;obtain⟨ak,ck,rfl⟩:=(OwnAt.rows HOW.o Az).len
  go_wp2_with (at_next;go_loud (refine wpList_next_ranges _ rfl (.tmp 14) rfl 157 Cz ceR (fun x:Int×Int=>L9 x.1 x.2) (fun c:Val×Val=>Xl c.1 c.2) PT Wi b W.heap.size n D left cnt rfl HRG.o ?_ ?_))
  ·intro hc0 hl0;have hp:=HS.o.done HD.o hl0;have HP:=hY hp;clear hc0 hl0 hp
   go_wp2_with (go_at_call 114;refine(KM W.heap.size _ _ lo (OwnAt.grew HOW.o gw) (fun x hx=>HD.o.there x (HS.o.sub x hx)) (by omega)).mono ?_;rintro e w3 ⟨rfl,l',q1,q2,q3,q4,q5,q6⟩;(have Q1:=hY q1);(have Q2:=hY q2);(have Q3:=hY q3);(have Q6:=hY (q6 W (HG.o.trans gw) (Nat.le_refl _)));clear q1 q2 q3 q4 q5 q6)
   go_ret;exact⟨_,l',rfl,Q1.out,Q2.out.trans HP.o,Q3.out,Q6.out⟩
  ·intro n' k' p0 q0 p1 q1 kl y1 y2 W1 cnt1 hkk hlk hRy hat hrg1 hlt hg1 hs1 hen;have HS1:=hY (HS.o.next HD.o hkk hlk hRy hat);have HG1:=hY (HG.o.grown hg1 fun q hq=>by cases hq;exact Nat.le_refl _);have HO1:Hid (OwnAt W.heap.size 57 6 Ci W1 (.slice ak lo.length ck) lo):=hY (OwnAt.same HOW.o fun q hq=>hg1.block q (by obtain⟨_,cs,hc⟩:=OwnAt.block HOW.o hq;exact AB hc) (fun e=>(Fu HRG.o HOW.o).2 (by rw[hq,e])));have HRG1:=hY hrg1;unfold L9 Xl at hen ⊢;clear hkk hlk hRy hat hrg1 hg1 hs1
   go_wp2_with (first
    | (go_at_call 83;refine(Xk _ _ _).mono ?_;rintro e w3 ⟨rfl,R3,n3,rfl⟩)
    | (at_builtin;go_loud (refine Am (w0:=W) rfl (.tmp 23) (.tmp 30) 23 _ _ _ _ [⟨n',k',(p0,q0),(p1,q1)⟩] rfl Tryz.underlying23 Mv rfl (by decide) Az E5 rfl (OwnAt.grew HO1.o gw) (HG1.o.trans gw) rfl (Wj _ _ _ _ rfl (by simp[go_sem])) (by simp;omega) (by decide) (by simp) ?_;intro v5 W5 hA;(have HA:=hY hA);clear hA)))
   have HR5:=hY (L6 (Gh HRG1.o gw) (OwnAt.grew HO1.o gw) HA.o)
   go_roundg cnt1
   case measure=>omega
   case rel=>exact⟨_,cnt1,_,_,Nat.le_refl _,rfl,hY HA.o.2.1,HR5,hY HA.o.1,HS1⟩
theorem Gi(W:World)(t b n:Nat)(m:List Tab.En)(hT:Au W t b n m): Calls Tryz.prog 41 #[.pointer (some ⟨t,0,none⟩)] W (Mo m W):=by
 have HT:=hY (Rx W t b n m hT);clear hT;go_enter Tryz.func41,Tryz.ntmps41
 go_wp2_with (go_at_call 82;refine HT.o.mono ?_;rintro e w1 ⟨v,s,rfl,h1,h2,h3,h4⟩;obtain⟨ak,ck,rfl⟩:=(OwnAt.rows h1 Az).len;(have H1:=hY h1);(have H2:=hY h2);(have H3:=hY h3);(have H4:=hY h4);clear h1 h2 h3 h4)
 go_ret;exact⟨_,s,rfl,H1.o,H2.o,H3.o,H4.o⟩
def Af(g:List Gr.Nd): List Ca:=g.flatMap fun n=>(List.range n.par.toNat).map fun(k:Nat)=>(n.id,(k:Int))
theorem Ri(g:List Gr.Nd)(n:Gr.Nd): Af (g++[n])=Af g++(List.range n.par.toNat).map fun(k:Nat)=>(n.id,(k:Int)):=by
 unfold Af;rw[List.flatMap_append,List.flatMap_cons,List.flatMap_nil,List.append_nil]
theorem De:∀(g:List Gr.Nd),(∀n∈g,n.par≤3)→(Af g).length≤g.length*3
 | [],_=>by simp[Af]
 |n::g,h=>by
  have h1:=De g fun x hx=>h x (List.mem_cons_of_mem _ hx)
  have h2:=h n (List.mem_cons_self ..);unfold Af at h1 ⊢;rw[List.flatMap_cons,List.length_append,List.length_map,List.length_range,List.length_cons];omega
theorem I8{g:List Gr.Nd}{x:Ca}: x∈Af g↔∃n∈g,x.1=n.id∧0≤x.2∧x.2<n.par:=by
 obtain⟨a,b⟩:=x;unfold Af;rw[List.mem_flatMap];constructor
 ·rintro⟨n,hn,h⟩;obtain⟨k,hk,e⟩:=List.mem_map.1 h;rw[List.mem_range] at hk;cases e;exact⟨n,hn,rfl,by omega,by omega⟩
 ·rintro⟨n,hn,h1,h2,h3⟩;simp only at h1 h2 h3;refine⟨n,hn,List.mem_map.2 ⟨b.toNat,List.mem_range.2 (by omega),?_⟩⟩;rw[h1,Int.toNat_of_nonneg h2]
theorem Jg:∀{g:List Gr.Nd},g.Pairwise (fun a b=>a.id<b.id)→(Af g).Nodup
 | [],_=>List.nodup_nil
 |n::g,h=>by
  obtain⟨h1,h2⟩:=List.pairwise_cons.1 h;have ih:=Jg h2;unfold Af at ih ⊢;rw[List.flatMap_cons,List.nodup_append];refine⟨?_,ih,fun a ha b hb e=>?_⟩
  ·rw[List.Nodup,List.pairwise_map];exact List.nodup_range.imp fun {a b} hne e=>hne (by injection e with _ e2;omega)
  ·subst e;obtain⟨k,-,rfl⟩:=List.mem_map.1 ha;obtain⟨m,hm,h3⟩:=List.mem_flatMap.1 hb;obtain⟨j,-,e⟩:=List.mem_map.1 h3;injection e with e1 _
   have:=h1 m hm;omega
theorem A2m{l l':List Gr.Nd}(hp:l'.Perm l)(h:l.Pairwise fun a b=>a.id<b.id)(h':l'.Pairwise fun a b=>a.id≤b.id): l'=l:=by
 have hu:(l.map (·.id)).Nodup:=by
  rw[List.Nodup,List.pairwise_map];exact h.imp fun {a b} q e=>by omega
 have hu':(l'.map (·.id)).Nodup:=(hp.map (·.id)).nodup_iff.2 hu
 have hs':l'.Pairwise fun a b=>a.id<b.id:=by
  rw[List.Nodup,List.pairwise_map] at hu';exact(h'.and hu').imp fun {a b} ⟨q1,q2⟩=>by omega
 exact hp.eq_of_pairwise (le:=fun a b:Gr.Nd=>a.id<b.id) (fun a b _ _ h1 h2=>by omega) hs' h
theorem A2n(v:Value)(l:List Gr.Nd)(w:World)(hv:AV w v l)(hs:Small l)(hl:l.length≤19)(ho:l.Pairwise fun a b=>a.id<b.id): Calls Tryz.prog 27 #[v] w (fun e w'=>∃v',e = .returned v'∧AV w' v' l∧AA w w'):=by
 refine(EF v l w hv hs hl).mono ?_;rintro e w' ⟨v',lc,l',rfl,h1,h2,h3,h4,g⟩;obtain rfl:=A2m h3 ho h4;exact⟨v',rfl,h2.at h1,g⟩
def Hd(x:Ca): List Value:=[.int .i64 x.1,.int .i64 x.2]
theorem KA(x:Ca): (Hd x).length=2:=rfl
theorem WN(x:Ca): ∀u∈Hd x,u.oneCell'=true:=by
 intro u hu;simp[Hd] at hu;rcases hu with rfl|rfl<;>rfl
theorem A2o:(Tryz.prog.info? 106).map (fun i=>(i.zero,i.size,i.bytes))=some (some (.agg #[.int .i64 0,.int .i64 0]),2,16):=by kernel_rfl
theorem A3x(W:World)(x:Ca)(t:TypeId)(b:Nat){c:Array Value}(hc:c=(Hd x).toArray)(hb:b=W.heap.size): ∀j u,(([x]:List Ca).flatMap Hd)[j]? = some u→(W.alloc (.cells c t)).cell? ⟨b,j,none⟩=some u:=by
 subst hc;intro j u hu;rw[DL W _ t b hb j];simpa using hu
def ZR(g:List Gr.Nd)(w:World)(e:Ending)(w':World): Prop:=∃a c,e = .returned (.slice a (Af g).length c)∧OwnAt w.heap.size 106 2 Hd w' (.slice a (Af g).length c) (Af g)∧AA w w'
theorem Mg(v:Value)(g:List Gr.Nd)(w:World)(hv:AV w v g)(hs:Small g)(hl:g.length≤8)(ho:g.Pairwise fun a b=>a.id<b.id)(hp:∀n∈g,0≤n.par∧n.par≤3): Calls Tryz.prog 52 #[v] w (ZR g w):=by
 have HN:=hY fun W (q:AA w W)=>A2n v g W (hv.grew q) hs (by omega) ho
 have HP:=hY hp;have HLK:=hY fun k=>De (g.take k) fun n hn=>(hp n (List.mem_of_mem_take hn)).2
 clear hv hs ho hp;go_enter Tryz.func52,Tryz.ntmps52
 go_wp2_with (go_at_call 27;refine(HN.o _ gw).mono ?_;rintro e w1 ⟨v1,rfl,hv1,R1,n1,rfl⟩;obtain⟨a1,c1,rfl,hm1,-⟩:=hv1.openC;(have HV1:=hY hv1);clear hv1)
 have HG1:Hid (AA w (w.more R1 n1)):=hY gw;generalize hw1:w.more R1 n1=w1 at *;clear hw1
 go_loopg [3,10] g.length (fun gg s3 s10 wr=>∃k:Nat,k≤g.length∧g.length-k≤gg∧s10 = .int .i64 k∧Hid (AA w1 wr)∧Hid (OwnAt w1.heap.size 106 2 Hd wr s3 (Af (g.take k))))
 case atStart=>exact⟨0,by omega,by omega,rfl,hY (AA.refl _),hY (OwnAt.nil _)⟩
 case round =>
  obtain⟨k,hk,hgg,rfl,HG,HO⟩:=hrel;by_cases hlt:k<g.length
  ·obtain⟨a',cap',e,-,hx⟩:=(HV1.o.grew HG.o).openC;cases e;obtain⟨b,off,c,rfl,hb,hn,c0,c1,c2,c3,c4,c5,c6,c7,c8,c9,c10,c11,c12⟩:=hx k hlt;obtain⟨p0,p3⟩:=HP.o _ (List.getElem_mem hlt);have HTK:=hY (show Af (g.take (k+1))=_ by rw[List.take_succ_eq_append_getElem hlt,Ri]);have hln:=HLK.o k;rw[List.length_take,Nat.min_eq_left hk] at hln;have hid:=hn.id;have hpar:=hn.par;clear hx hn;generalize g[k]=y at *;obtain⟨cid,kind,af,nf,cf,ap,np,cp,par,r0,r1,r2,r3,r4,r5,r6,r7⟩:=c;simp only at c0 c1 c2 c3 c4 c5 c6 c7 c8 c9 c10 c11 c12 hid hpar;obtain⟨p,hp⟩:∃p:Nat,par=(p:Int):=⟨par.toNat,by omega⟩;subst hp;have HPN:Hid (y.par.toNat=p):=hY (by omega);have hp3:p≤3:=by omega
   have HID:=hY hid;clear hid hpar p0 p3;go_wp2
   go_loopg [3,16] p (fun gg2 s3' s16 wr2=>∃j:Nat,j≤p∧p-j≤gg2∧s16 = .int .i64 j∧Hid (AA w1 wr2)∧Hid (wr2.heap[wr.heap.size]? = some (.cells #[.int .i64 cid,.int .i64 kind,.slice af nf cf,.slice ap np cp,.int .i64 (p:Int),.int .i64 r0,.int .i64 r1,.int .i64 r2,.int .i64 r3,.int .i64 r4,.int .i64 r5,.int .i64 r6,.int .i64 r7] 64))∧Hid (OwnAt w1.heap.size 106 2 Hd wr2 s3' (Af (g.take k)++(List.range j).map fun(i:Nat)=>(y.id,(i:Int)))))
   case atStart=>exact⟨0,by omega,by omega,rfl,hY (HG.o.trans gw),hY (AO _ _ _ rfl),hY (by rw[List.range_zero,List.map_nil,List.append_nil];exact OwnAt.grew HO.o gw)⟩
   case round =>
    obtain⟨j,hj,hgg2,rfl,HG2,HB2,HO2⟩:=hrel;by_cases hlt2:j<p
    ·have d0:=cell_of (o:=0) HB2.o;have d4:=cell_of (o:=4) HB2.o;simp at d0 d4;have pd:=Ad.mk (AB HB2.o);have HRS:Hid (((List.range (j+1)).map fun(i:Nat)=>(y.id,(i:Int)))=((List.range j).map fun(i:Nat)=>(y.id,(i:Int)))++[(y.id,(j:Int))]):=hY (by rw[List.range_succ,List.map_append];rfl)
     go_wp2_with (at_builtin;go_loud (refine Am (w0:=w1) rfl (.tmp 19) (.tmp 24) 120 _ _ _ _ [(cid,(j:Int))] rfl Tryz.underlying120 A2o rfl (by decide) KA WN rfl (OwnAt.grew HO2.o gw) (HG2.o.trans gw) rfl (A3x _ _ _ _ rfl (by simp[go_sem])) (by simp;omega) (by decide) (by simp) ?_);intro v7 W7 hA;(have HA:=hY hA);clear hA)
     go_roundg (p-(j+1))
     case measure=>omega
     case rel =>
      obtain⟨q1,q2,q3,q4,q5⟩:=HA.o;refine⟨j+1,by omega,by omega,by go_num,hY q1,hY ?_,hY ?_⟩
      ·rw[q4 _ (by have:=AB HB2.o;simp[go_sem];omega) (OwnAt.other HO2.o HB2.o (by decide))];exact AC gw HB2.o
      ·rw[HRS.o,←List.append_assoc,HID.o];rw[HID.o] at q2;exact q2
    ·obtain rfl:j=p:=by omega
     have d4:=cell_of (o:=4) HB2.o;simp at d4;have pd:=Ad.mk (AB HB2.o);go_wp2
     go_roundg (g.length-(k+1))
     case measure=>omega
     case rel=>exact⟨k+1,by omega,by omega,by go_num,hY (HG2.o.trans gw),hY (by rw[HTK.o,HPN.o];exact OwnAt.grew HO2.o gw)⟩
  ·obtain rfl:k=g.length:=by omega
   have ho:=HO.o;rw[List.take_length] at ho;obtain⟨av,cv,rfl⟩:=(OwnAt.rows ho KA).len;have HO9:=hY ho;clear ho;go_wp2;go_ret;exact⟨_,_,rfl,OwnAt.low HO9.o HG1.o.below.size,HG1.o.trans HG.o⟩
def UO(n:Nat)(v:Value)(_:World): Prop:=∃a c,v = .slice a n c
theorem UO.st(n:Nat): ∀v w w',UO n v w→AA w w'→UO n v w':=fun _ _ _ h _=>h
theorem He{W:World}{x b n:Nat}{g:List Gr.Nd}{ep:Int}{m:List (Ca×CV)}(h:BN W x b n g ep m): ∀n∈g,1≤n.par∧n.par≤3:=fun y hy=>by
 obtain⟨i,hi,e⟩:=List.mem_iff_getElem.1 hy;have:=h.right.ok i y (by rw[List.getElem?_eq_getElem hi,e]);exact⟨this.pr1,this.pr3⟩
theorem F8(x b n:Nat)(g:List Gr.Nd)(ep:Int)(m:List (Ca×CV))(w:World)(h:BN w x b n g ep m)(hn:n≤1000): Calls Tryz.prog 21 #[.pointer (some ⟨x,0,none⟩)] w (Ac (.int .i64 ((Af g).length-m.length)) w):=by
 have hgp:=He h;have htl:=De g fun y hy=>(hgp y hy).2
 have hl8:=h.len;have hml:=h.map.len_le;obtain⟨v,hx,hv⟩:=h.cells;have HA:=hY fun W (q:AA w W)=>Mg v g W (hv.grew q) h.small h.len h.so fun y hy=>by have:=hgp y hy;omega
 have HLEN:=hY fun W (q:AA w W)=>(h.map.grew q).len Tryz.underlying83 3
 have x0:=cell_of (o:=0) hx;have x2:=cell_of (o:=2) hx;simp at x0 x2;have px:=Ad.mk (AB hx);obtain⟨av,cv,rfl,-,-⟩:=hv.openC;clear h hgp hx hv;go_enter Tryz.func21,Tryz.ntmps21;go_wp2;refine AY 13 Tryz.mixed (by kernel_rfl) (by kernel_rfl) ?_
 iterate 4
  apply Ch.val
  focus
   rintro w1 u ⟨R1,n1,rfl⟩ hF;simp[AR,AU.more,Oper.deps,Region.binds,List.filter_cons,World.more_drew] at hF;simp[AL,Oper.deps,Region.binds,List.filter_cons,Region.dstOf,AU.at,Act.put,World.more_drew];go_wp2;exact⟨gw,rfl,_,_,rfl,rfl,rfl⟩
 apply Ch.of (UO (Af g).length) (UO.st _)
 focus
  rintro w1 u ⟨R1,n1,rfl⟩ hF;simp[AR,AU.more,Oper.deps,Region.binds,List.filter_cons,World.more_drew] at hF;simp[AL,Oper.deps,Region.binds,List.filter_cons,Region.dstOf,AU.at,Act.put,World.more_drew]
  go_wp2_with (first
   | (go_at_call 52;go_loud (refine(HA.o _ gw).mono ?_);rintro e w2 ⟨a2,c2,rfl,-,R3,n3,rfl⟩)
   )
  exact⟨gw,rfl,_,_,rfl,rfl,⟨_,_,rfl⟩⟩
 apply Ch.val
 focus
  rintro w1 u ⟨R1,n1,rfl⟩ hF;simp[AR,AU.more,Oper.deps,Region.binds,List.filter_cons,World.more_drew] at hF;simp[AL,Oper.deps,Region.binds,List.filter_cons,Region.dstOf,AU.at,Act.put,World.more_drew];obtain⟨a2,c2,hu⟩:=hF;rw[hu];go_wp2;exact⟨gw,rfl,_,_,rfl,rfl,rfl⟩
 iterate 4
  apply Ch.val
  focus
   rintro w1 u ⟨R1,n1,rfl⟩ hF;simp[AR,AU.more,Oper.deps,Region.binds,List.filter_cons,World.more_drew] at hF;simp[AL,Oper.deps,Region.binds,List.filter_cons,Region.dstOf,AU.at,Act.put,World.more_drew];go_wp2;exact⟨gw,rfl,_,_,rfl,rfl,rfl⟩
 apply Ch.val
 focus
  rintro w1 u ⟨R1,n1,rfl⟩ hF;simp[AR,AU.more,Oper.deps,Region.binds,List.filter_cons,World.more_drew] at hF;simp[AL,Oper.deps,Region.binds,List.filter_cons,Region.dstOf,AU.at,Act.put,World.more_drew];have hlm:=HLEN.o (w.more R1 n1) gw;go_wp2;exact⟨gw,rfl,_,_,rfl,rfl,rfl⟩
 iterate 2
  apply Ch.val
  focus
   rintro w1 u ⟨R1,n1,rfl⟩ hF;simp[AR,AU.more,Oper.deps,Region.binds,List.filter_cons,World.more_drew] at hF;simp[AL,Oper.deps,Region.binds,List.filter_cons,Region.dstOf,AU.at,Act.put,World.more_drew];go_wp2;exact⟨gw,rfl,_,_,rfl,rfl,rfl⟩
 rintro u w1 ⟨R1,n1,rfl⟩ hF;clear hF;simp[AL,Region.dstOf,AU.at,Act.put,List.range_succ,World.more_drew];go_wp2;go_ret;exact⟨by rfl,gw⟩
theorem OI{g:List Gr.Nd}(h:Gr.RightR g): Gr.RightR (Gr.normG g):=h.perm (Gr.normG_perm h.ids h.r7).symm
theorem DN{g:List Gr.Nd}(h:Gr.RightR g): ∀n∈g,(1≤n.par∧n.par≤3)∧∀t∈n.route,0≤t∧t<n.par:=fun n hn=>by
 obtain⟨i,hi,e⟩:=List.mem_iff_getElem.1 hn;have:=h.ok i n (by rw[List.getElem?_eq_getElem hi,e]);exact⟨⟨this.pr1,this.pr3⟩,this.rt⟩
theorem UL{g:List Gr.Nd}(h:Gr.RightR g)(x:Int): Gr.nodeOf (Gr.normG g) x=Gr.nodeOf g x:=by
 have hp:=Gr.normG_perm h.ids h.r7;exact Gr.bind_perm hp ((Gr.perm_ids hp).nodup_iff.2 h.ids) x
theorem J5{g:List Gr.Nd}(h:¬Gr.RightR g): (AP g != 0)=true:=by
 by_cases h8:g.length≤8
 ·rw[Dx h8 h];rfl
 ·rw[IU (by omega)];rfl
theorem J6{g:List Gr.Nd}(h:Gr.RightR g): AP g=0:=GK h.len h
theorem ZK(v:Value)(g:List Gr.Nd)(w:World)(hv:AV w v g)(hs:Small g)(h:Gr.RightR g): Calls Tryz.prog 27 #[v] w (fun e w'=>∃v',e = .returned v'∧AV w' v' (Gr.normG g)∧AA w w'):=by
 refine(EF v g w hv hs (by have:=h.len;omega)).mono ?_;rintro e w' ⟨v',lc,l',rfl,h1,h2,h3,h4,gw⟩;obtain rfl:=Gr.norm_unique h3 h4 h.ids h.r7;exact⟨v',rfl,h2.at h1,gw⟩
theorem G9{g:List Gr.Nd}(h:Gr.RightR g)(hs:Small g): Small (Gr.normG g):=fun n hn=>hs n ((Gr.normG_mem h.ids h.r7 n).1 hn)
theorem Lj(v:Value)(g:List Gr.Nd)(w:World)(hv:AV w v g)(hs:Small g)(h:Gr.RightR g): Calls Tryz.prog 27 #[v] w (fun e w'=>∃v' lc,e = .returned v'∧Aa w.heap.size w' v' lc∧Ah w.heap.size w' lc (Gr.normG g)∧AA w w'):=by
 refine(EF v g w hv hs (by have:=h.len;omega)).mono ?_;rintro e w' ⟨v',lc,l',rfl,h1,h2,h3,h4,gw⟩;obtain rfl:=Gr.norm_unique h3 h4 h.ids h.r7;exact⟨v',lc,rfl,h1,h2,gw⟩
def Br(base:Nat)(g:List Gr.Nd)(v:Value)(w:World): Prop:=∃a c lc,v = .slice a g.length c∧Aa base w v lc∧Ah base w lc g
theorem Br.keep{base:Nat}{g:List Gr.Nd}{v:Value}{w w':World}(h:Br base g v w)(hk:∀b,base≤b→b<w.heap.size→w'.heap[b]? = w.heap[b]?): Br base g v w':=by
 obtain⟨a,c,lc,h1,h2,h3⟩:=h;refine⟨a,c,lc,h1,OwnAt.same h2 fun b hb=>?_,BL.mono (fun c n ⟨q1,q2⟩=>?_) h3⟩
 ·obtain⟨q,cs,hc⟩:=OwnAt.block h2 hb;exact hk b q (AB hc)
 ·have q3:=q2.to hk;exact⟨q3.is q1,q3⟩
theorem Br.st(base:Nat)(g:List Gr.Nd): ∀v w w',Br base g v w→AA w w'→Br base g v w':=fun _ _ _ h q=>h.keep fun b _ hb=>q.below.block b hb
theorem Br.low{base base':Nat}{g:List Gr.Nd}{v:Value}{w:World}(h:Br base g v w)(hb:base'≤base): Br base' g v w:=by
 obtain⟨a,c,lc,h1,h2,h3⟩:=h;exact⟨a,c,lc,h1,OwnAt.low h2 hb,BL.mono (fun c n ⟨q1,q2⟩=>⟨q1,q2.low hb⟩) h3⟩
theorem Br.at'{base:Nat}{g:List Gr.Nd}{v:Value}{w:World}(h:Br base g v w): AV w v g:=by
 obtain⟨a,c,lc,h1,h2,h3⟩:=h;exact h3.at h2
def A1M(w:World)(g:List Gr.Nd)(ep:Int)(e:Ending)(w':World): Prop :=
 (¬Gr.RightR g→e = .returned (.tuple #[.pointer none,.int .i64 10])∧AA w w') ∧
 (Gr.RightR g→¬(1≤ep∧ep≤2147483647)→e = .returned (.tuple #[.pointer none,.int .i64 1])∧AA w w') ∧
 (Gr.RightR g→(1≤ep∧ep≤2147483647)→∃x b,e = .returned (.tuple #[.pointer (some ⟨x,0,none⟩),.int .i64 0])∧BN w' x b 0 (Gr.normG g) ep []∧w.heap.size≤x∧w.heap.size≤b∧AA w w')
theorem A1N{g:List Gr.Nd}(h:Gr.RightR g): (Gr.normG g).length=g.length:=(Gr.normG_perm h.ids h.r7).length_eq
theorem XX(v:Value)(g:List Gr.Nd)(ep:Int)(w:World)(hv:AV w v g)(hs:Small g): Calls Tryz.prog 7 #[v,.int .i64 ep] w (A1M w g ep):=by
 have HC:=hY fun W (q:AA w W)=>BU v g W (hv.grew q) hs
 by_cases hr:Gr.RightR g
 case neg =>
  refine Calls.mono (R:=Ac (.tuple #[.pointer none,.int .i64 10]) w) ?_ fun e w' h=>⟨fun _=>h,fun q=>absurd q hr,fun q=>absurd q hr⟩
  have hck:=J5 hr;generalize AP g=ck at *;obtain⟨a,cap,rfl,hm,-⟩:=hv.openC;clear hv hs hr;go_enter Tryz.func7,Tryz.ntmps7
  go_wp2_with (go_at_call 26;refine(HC.o _ gw).mono ?_;rintro e w1 ⟨rfl,R1,n1,rfl⟩)
  go_ret2;exact⟨rfl,gw⟩
 have hck:=J6 hr;rw[hck] at HC;by_cases he:1≤ep
 case neg =>
  refine Calls.mono (R:=Ac (.tuple #[.pointer none,.int .i64 1]) w) ?_ fun e w' h=>⟨fun q=>absurd hr q,fun _ _=>h,fun _ q=>absurd q.1 he⟩
  obtain⟨a,cap,rfl,hm,-⟩:=hv.openC;clear hv hs hr hck;go_enter Tryz.func7,Tryz.ntmps7
  go_wp2_with (go_at_call 26;refine(HC.o _ gw).mono ?_;rintro e w1 ⟨rfl,R1,n1,rfl⟩)
  go_ret2;exact⟨rfl,gw⟩
 by_cases he2:ep≤2147483647
 case neg =>
  refine Calls.mono (R:=Ac (.tuple #[.pointer none,.int .i64 1]) w) ?_ fun e w' h=>⟨fun q=>absurd hr q,fun _ _=>h,fun _ q=>absurd q.2 he2⟩
  obtain⟨a,cap,rfl,hm,-⟩:=hv.openC;clear hv hs hr hck;go_enter Tryz.func7,Tryz.ntmps7
  go_wp2_with (go_at_call 26;refine(HC.o _ gw).mono ?_;rintro e w1 ⟨rfl,R1,n1,rfl⟩)
  go_ret2;exact⟨rfl,gw⟩
 refine Calls.mono (R:=fun e w'=>∃x b,e = .returned (.tuple #[.pointer (some ⟨x,0,none⟩),.int .i64 0])∧BN w' x b 0 (Gr.normG g) ep []∧w.heap.size≤x∧w.heap.size≤b∧AA w w') ?_ fun e w' h=>⟨fun q=>absurd hr q,fun _ q=>absurd ⟨he,he2⟩ q,fun _ _=>h⟩
 have HN:=hY fun W (q:AA w W)=>ZK v g W (hv.grew q) hs hr
 have HRN:=hY (OI hr);have HSN:=hY (G9 hr hs);have hl:=hr.len;rw[←A1N hr] at hl;obtain⟨a,cap,rfl,hm,-⟩:=hv.openC;clear hv hs hr hck;have hmm:=@run_makeMap Tryz.prog;go_enter Tryz.func7,Tryz.ntmps7
 go_wp2_with (first
  | (go_at_call 26;refine(HC.o _ gw).mono ?_;rintro e w1 ⟨rfl,R1,n1,rfl⟩)
  | (go_at_call 27;refine(HN.o _ gw).mono ?_;rintro e w2 ⟨v2,rfl,hv2,R2,n2,rfl⟩;obtain⟨a2,c2,rfl,-,-⟩:=hv2.openC;(have HV2:=hY hv2);clear hv2))
 go_ret2;refine⟨_,_,rfl,⟨⟨_,AO _ _ _ (by simp[go_sem]),HV2.o.grew gw⟩,?_,HSN.o,hl,Gr.normG_sorted g,HRN.o⟩,by omega,by omega,gw⟩;have hm:=(MapAt.made ZQ ((w.more R1 n1).more R2 n2)).grew gw;rw[World.more_size,World.more_size] at hm;exact MapAt.grew hm ((AA.refl _).alloc _)
noncomputable def OH(g:List Gr.Nd)(ep:Int)(m:List (Ca×CV))(c:CV): Int:=match Gr.nodeOf g c.node with
 | none=>12
 | some n=>if c.ix<0∨n.par≤c.ix then 12 else if c.ep≠ep then 1 else if (EM m (c.node,c.ix)).isSome then 13 else 0
def A2f(w0 W:World)(x b n:Nat)(g:List Gr.Nd)(ep:Int)(m:List (Ca×CV))(c:CV)(e:Ending)(W':World): Prop :=
 e = .returned (.int .i64 (OH g ep m c))∧(OH g ep m c≠0→AA W W')∧(OH g ep m c=0→BN W' x b (n+1) g ep (((c.node,c.ix),c)::m)∧AA w0 W'∧A7 b W W')
def WK(r:Option Gr.Nd): Int:=match r with
 | some n=>n.par
 | none=>0
theorem WL{r:Option Gr.Nd}{w w':World}{e:Ending}(h:JI r w e w'): ∃c:BM,e = .returned (.tuple #[.agg #[.int .i64 c.id,.int .i64 c.kind,.slice c.af c.nf c.cf,.slice c.ap c.np c.cp,.int .i64 c.par,.int .i64 c.r0,.int .i64 c.r1,.int .i64 c.r2,.int .i64 c.r3,.int .i64 c.r4,.int .i64 c.r5,.int .i64 c.r6,.int .i64 c.r7],.bool r.isSome])∧c.par=WK r∧AA w w':=by
 cases r with
 |none =>
  obtain⟨h1,h2⟩:=h
  exact⟨⟨0,0,none,0,0,none,0,0,0,0,0,0,0,0,0,0,0⟩,h1,rfl,h2⟩
 |some n =>
  obtain⟨c,h1,h2,-,h4⟩:=h;exact⟨c,h1,h2.par.symm,h4⟩
def Rf(b:Bool)(p:Int)(v:Value)(_:World): Prop:=∃c:BM,v = .tuple #[.agg #[.int .i64 c.id,.int .i64 c.kind,.slice c.af c.nf c.cf,.slice c.ap c.np c.cp,.int .i64 c.par,.int .i64 c.r0,.int .i64 c.r1,.int .i64 c.r2,.int .i64 c.r3,.int .i64 c.r4,.int .i64 c.r5,.int .i64 c.r6,.int .i64 c.r7],.bool b]∧c.par=p
theorem Rf.st(b:Bool)(p:Int): ∀v w w',Rf b p v w→AA w w'→Rf b p v w':=fun _ _ _ h _=>h
def A1O(p:Int)(v:Value)(_:World): Prop:=∃c:BM,v = .agg #[.int .i64 c.id,.int .i64 c.kind,.slice c.af c.nf c.cf,.slice c.ap c.np c.cp,.int .i64 c.par,.int .i64 c.r0,.int .i64 c.r1,.int .i64 c.r2,.int .i64 c.r3,.int .i64 c.r4,.int .i64 c.r5,.int .i64 c.r6,.int .i64 c.r7]∧c.par=p
theorem A1O.st(p:Int): ∀v w w',A1O p v w→AA w w'→A1O p v w':=fun _ _ _ h _=>h
theorem BD{W W':World}{a:Addr}{u:Value}(g:AA W W')(h:W.cell? a=some u): W'.cell? a=some u:=Ei g.below a u h
theorem UK(w0 W:World)(x b n:Nat)(g:List Gr.Nd)(ep:Int)(m:List (Ca×CV))(c:CV)(h:BN W x b n g ep m)(hg:AA w0 W)(hb:w0.heap.size≤b)(hn:n≤1000)(hw:Kz (c.node,c.ix)):
  Calls Tryz.prog 12 #[.pointer (some ⟨x,0,none⟩),akv c] W (A2f w0 W x b n g ep m c):=by
 have HH:=hY h;have HG:=hY hg;have HW:=hY hw;obtain⟨v,hx,hv⟩:=h.cells;have HF:=hY fun W2 (q:AA W W2)=>DU v g c.node W2 (hv.grew q) h.small
 have HLK:=hY fun W2 (q:AA W W2)=>(h.map.grew q).lookOk _ hw Tryz.underlying83 CV.zero (Xa W2)
 obtain⟨av,cv,rfl,-,-⟩:=hv.openC;have x0:=cell_of (o:=0) hx;have x1:=cell_of (o:=1) hx;have x2:=cell_of (o:=2) hx;simp at x0 x1 x2;have px:=Ad.mk (AB hx);have HX:=hY hx;clear h hg hw hx hv;obtain⟨nd,ix,ce,ae,ne,cae,ax,nx,cax,off⟩:=c;simp only at HF HLK HW;unfold akv;obtain⟨rq,hrq⟩:∃r,Gr.nodeOf g nd=r:=⟨_,rfl⟩;rw[hrq] at HF;have HRQ:=hY hrq;clear hrq;go_enter Tryz.func12,Tryz.ntmps12
 go_upto_region 4 with fail
 go_cut [5,6] (fun s5 s6 wx=>∃B:Nat,s5 = .pointer (some ⟨B,0,none⟩)∧s6 = .bool rq.isSome∧AA (W.alloc (.cells #[.int .i64 nd,.int .i64 ix,.int .i64 ce,.slice ae ne cae,.slice ax nx cax,.int .i64 off] 33)) wx∧W.heap.size+1≤B∧wx.cell? ⟨B,4,none⟩=some (.int .i64 (WK rq)))
 case first =>
  go_region_held3 (fun w'=>w'.cell? ⟨x,0,none⟩=some (.slice av g.length cv)∧w'.cell? ⟨W.heap.size,0,none⟩=some (.int .i64 nd)) ((refine⟨?_,?_⟩<;>simp[go_sem, *])) (first
   | (go_simp;go_at_call 28;refine(HF.o _ gw).mono ?_;rintro e w2 h9;obtain⟨c9,rfl,hc9,R3,n3,rfl⟩:=WL h9;(have HC9:=hY hc9);clear h9 hc9))
  all_goals
   go_wp2_with fail
   go_meet
   refine⟨_,rfl,rfl,gw,by omega,?_⟩;rw[←HC9.o];exact(cell_of (o:=4) (AC gw (AO _ _ _ (by simp[go_sem])))).trans rfl
 case rest =>
  obtain⟨B,rfl,rfl,hgw,hB,hpar⟩:=hcut;generalize wc=W5 at *;clear wc;have HGW:=hY (((AA.refl W).alloc (.cells #[.int .i64 nd,.int .i64 ix,.int .i64 ce,.slice ae ne cae,.slice ax nx cax,.int .i64 off] 33)).trans hgw);have hx5:=AC HGW.o HX.o;have hak:W5.heap[W.heap.size]? = some (.cells #[.int .i64 nd,.int .i64 ix,.int .i64 ce,.slice ae ne cae,.slice ax nx cax,.int .i64 off] 33):=AC hgw (AO _ _ _ rfl);clear x0 x1 x2 px hgw;have x1:=cell_of (o:=1) hx5;have x2:=cell_of (o:=2) hx5;have a0:=cell_of (o:=0) hak;have a1:=cell_of (o:=1) hak;have a2:=cell_of (o:=2) hak;have a3:=cell_of (o:=3) hak;have a4:=cell_of (o:=4) hak;have a5:=cell_of (o:=5) hak;simp at x1 x2 a0 a1 a2 a3 a4 a5;have px:=Ad.mk (AB hx5);have pa:=Ad.mk (AB hak);have pB:=Ad.ofCell hpar;have HX5:=hY hx5;have HAK:=hY hak;have HPAR:=hY hpar;clear hx5 hak;have HM5:=hY fun W2 (q:AA W5 W2)=>HLK.o W2 (HGW.o.trans q)
  obtain⟨ac,hac⟩:∃ac,(EM m (nd,ix)).getD CV.zero=ac:=⟨_,rfl⟩;obtain⟨bq,hbq⟩:∃bq,(EM m (nd,ix)).isSome=bq:=⟨_,rfl⟩;rw[hac,hbq] at HM5;obtain⟨d0,d1,d2,d3,d4,d5,d6,d7,d8,d9⟩:=ac;have HBQ:=hY hbq;clear hac hbq;have hl1:=HM5.o ((W5.alloc (.cells #[.int .i64 nd,.int .i64 ix] 106)).drew) gw;have hl2:=fun o=>HM5.o (((W5.alloc (.cells #[.int .i64 nd,.int .i64 ix] 106)).alloc o).drew) gw
  simp only[ZQ,whK,akv] at hl1 hl2
  go_upto_region 5 with fail
  go_cut [8,9] (fun s8 s9 wx=>s9 = .bool bq∧AA (W5.alloc (.cells #[.int .i64 nd,.int .i64 ix] 106)) wx)
  case first =>
   go_region_held3 (fun w'=>w'.cell? ⟨x,2,none⟩=some (.map (some b))∧w'.cell? ⟨W5.heap.size,0,none⟩=some (.int .i64 nd)∧w'.cell? ⟨W5.heap.size,1,none⟩=some (.int .i64 ix)) ((refine⟨?_,?_,?_⟩<;>simp[go_sem, *])) (fail)
   all_goals
    go_wp2_with fail
    go_meet
    exact⟨rfl,gw⟩
  case rest =>
   obtain⟨rfl,hg6⟩:=hcut;have HG6:=hY (((AA.refl W5).alloc (.cells #[.int .i64 nd,.int .i64 ix] 106)).trans hg6);have hwh:wc.heap[W5.heap.size]? = some (.cells #[.int .i64 nd,.int .i64 ix] 106):=AC hg6 (AO _ _ _ rfl);have HWH:=hY hwh;generalize wc=W6 at *;clear wc hl1 hl2 hg6 hwh;clear x1 x2 a0 a1 a2 a3 a4 a5 px pa pB hpar;have HG9:=hY (HGW.o.trans HG6.o);have hx6:=AC HG6.o HX5.o;have hak6:=AC HG6.o HAK.o;have hpar:=BD HG6.o HPAR.o;have x1:=cell_of (o:=1) hx6;have x2:=cell_of (o:=2) hx6;have a0:=cell_of (o:=0) hak6;have a1:=cell_of (o:=1) hak6;have a2:=cell_of (o:=2) hak6;have a3:=cell_of (o:=3) hak6;have a4:=cell_of (o:=4) hak6;have a5:=cell_of (o:=5) hak6;have b0:=cell_of (o:=0) HWH.o;have b1:=cell_of (o:=1) HWH.o;simp at x1 x2 a0 a1 a2 a3 a4 a5 b0 b1;have px:=Ad.mk (AB hx6);have pa:=Ad.mk (AB hak6);have pB:=Ad.ofCell hpar;have pw:=Ad.mk (AB HWH.o);clear hx6 hak6
   cases rq with
   |none =>
    have hR:OH g ep m ⟨nd,ix,ce,ae,ne,cae,ax,nx,cax,off⟩=12:=by unfold OH;simp only;rw[HRQ.o]
    have HR:=hY hR;clear hR;go_wp2;go_ret
    exact⟨by rw[HR.o];rfl,fun _=>HG9.o,fun q=>by rw[HR.o] at q;cases q⟩
   |some y =>
    have hRd:OH g ep m ⟨nd,ix,ce,ae,ne,cae,ax,nx,cax,off⟩=if ix<0∨y.par≤ix then 12 else if ce≠ep then 1 else if bq=true then 13 else 0:=by unfold OH;simp only;rw[HRQ.o,←HBQ.o]
    have hfp:WK (some y)=y.par:=rfl;rw[hfp] at hpar;generalize y.par=p at *;by_cases h1:ix<0
    ·have HR:=hY (hRd.trans (if_pos (.inl h1)));clear hRd;go_wp2;go_ret;exact⟨by rw[HR.o];rfl,fun _=>HG9.o,fun q=>by rw[HR.o] at q;cases q⟩
    by_cases h2:p≤ix
    ·have HR:=hY (hRd.trans (if_pos (.inr h2)));clear hRd;go_wp2;go_ret;exact⟨by rw[HR.o];rfl,fun _=>HG9.o,fun q=>by rw[HR.o] at q;cases q⟩
    have hRd2:=hRd.trans (if_neg (fun q=>q.elim h1 h2));clear hRd;by_cases h3:ce=ep
    case neg =>
     have HR:=hY (hRd2.trans (if_pos h3));have hb3:(ce != ep)=true:=by simpa using h3
     clear hRd2 h3;go_wp2;refine AY 8 Tryz.mixed (by kernel_rfl) (by kernel_rfl) ?_
     iterate 8
      apply Ch.val
      focus
       rintro w1 u ⟨R1,n1,rfl⟩ hF;simp[AR,AU.more,Oper.deps,Region.binds,List.filter_cons,World.more_drew] at hF;simp[AL,Oper.deps,Region.binds,List.filter_cons,Region.dstOf,AU.at,Act.put,World.more_drew];go_wp2;exact⟨gw,rfl,_,_,rfl,rfl,rfl⟩
     rintro u w1 ⟨R1,n1,rfl⟩ hF;clear hF;simp[AL,Region.dstOf,AU.at,Act.put,List.range_succ,World.more_drew];go_wp2;go_ret;exact⟨by rw[HR.o];rfl,fun _=>HG9.o.trans gw,fun q=>by rw[HR.o] at q;cases q⟩
    subst h3;have hRd3:=hRd2.trans (if_neg (fun q=>q rfl));clear hRd2;cases bq
    case true =>
     have HR:=hY (hRd3.trans (if_pos rfl));clear hRd3;go_wp2;refine AY 8 Tryz.mixed (by kernel_rfl) (by kernel_rfl) ?_
     iterate 8
      apply Ch.val
      focus
       rintro w1 u ⟨R1,n1,rfl⟩ hF;simp[AR,AU.more,Oper.deps,Region.binds,List.filter_cons,World.more_drew] at hF;simp[AL,Oper.deps,Region.binds,List.filter_cons,Region.dstOf,AU.at,Act.put,World.more_drew];go_wp2;exact⟨gw,rfl,_,_,rfl,rfl,rfl⟩
     rintro u w1 ⟨R1,n1,rfl⟩ hF;clear hF;simp[AL,Region.dstOf,AU.at,Act.put,List.range_succ,World.more_drew];go_wp2;go_ret;exact⟨by rw[HR.o];rfl,fun _=>HG9.o.trans gw,fun q=>by rw[HR.o] at q;cases q⟩
    have HR:=hY (hRd3.trans (if_neg (by decide)))
    have HNO:Hid (∀z∈m,z.1≠(nd,ix)):=hY (by
     rcases ME m (nd,ix) with ⟨v,q1,q2⟩|⟨q1,q2⟩
     ·have:=HBQ.o;rw[q1] at this;cases this
     ·exact q2)
    clear hRd3;go_wp2;refine AY 8 Tryz.mixed (by kernel_rfl) (by kernel_rfl) ?_
    iterate 8
     apply Ch.val
     focus
      rintro w1 u ⟨R1,n1,rfl⟩ hF;simp[AR,AU.more,Oper.deps,Region.binds,List.filter_cons,World.more_drew] at hF;simp[AL,Oper.deps,Region.binds,List.filter_cons,Region.dstOf,AU.at,Act.put,World.more_drew];go_wp2;exact⟨gw,rfl,_,_,rfl,rfl,rfl⟩
    rintro u w1 ⟨R1,n1,rfl⟩ hF;clear hF;simp[AL,Region.dstOf,AU.at,Act.put,List.range_succ,World.more_drew];go_wp2;refine AY 6 Tryz.mixed (by kernel_rfl) (by kernel_rfl) ?_
    iterate 6
     apply Ch.val
     focus
      rintro w1 u ⟨R1,n1,rfl⟩ hF;simp[AR,AU.more,Oper.deps,Region.binds,List.filter_cons,World.more_drew] at hF;simp[AL,Oper.deps,Region.binds,List.filter_cons,Region.dstOf,AU.at,Act.put,World.more_drew];go_wp2;exact⟨gw,rfl,_,_,rfl,rfl,rfl⟩
    rintro u w1 ⟨R1,n1,rfl⟩ hF;clear hF;simp[AL,Region.dstOf,AU.at,Act.put,List.range_succ,World.more_drew];refine Oi (S:=ZQ) (w0:=w0) (M:=m) rfl (.tmp 64) (.tmp 65) (.tmp 66) 83 rfl Tryz.underlying83 ((HG.o.trans HG9.o).trans gw) hb rfl ((HH.o.grew HG9.o).map.grew gw) (by unfold maxLen;omega) (nd,ix) ⟨nd,ix,ce,ae,ne,cae,ax,nx,cax,off⟩ HW.o HNO.o rfl rfl ?_;intro W7 h7 g7 k7;have H7:=hY h7;have G7:=hY g7;have K7:=hY k7;clear h7 g7 k7;go_wp2;go_ret;refine⟨by rw[HR.o];rfl,fun q=>absurd HR.o q,fun _=>⟨BN.put (HH.o.grew HG9.o |>.grew gw) K7.out H7.o,G7.out,(A7.ofGrew (HG9.o.trans gw)).trans K7.out⟩⟩
def Fp(g:List Gr.Nd)(x:Tab.En): Bool:=match Gr.nodeOf g x.node with
 | none=>true
 | some n=>n.kind != 1
theorem Re(B:Nat)(a:Option Addr)(cap:Nat)(g:List Gr.Nd)(W:World)(x:Tab.En)(hg:AV W (.slice a g.length cap) g)(hs:Small g)(hB:W.cell? ⟨B,0,none⟩=some (.slice a g.length cap)): Calls Tryz.prog 110 #[.agg #[.int .i64 x.node,.int .i64 x.key,.int .i64 x.c0.1,.int .i64 x.c0.2,.int .i64 x.c1.1,.int .i64 x.c1.2],.pointer (some ⟨B,0,none⟩)] W (Ac (.bool (Fp g x)) W):=by
 obtain⟨nd,ky,⟨p0,q0⟩,⟨p1,q1⟩⟩:=x;have HF:=hY fun W' (h:AA W W')=>DU _ g nd W' (hg.grew h) hs
 have pB:=Ad.ofCell hB;show Calls Tryz.prog _ #[.agg #[.int .i64 nd,.int .i64 ky,.int .i64 p0,.int .i64 q0,.int .i64 p1,.int .i64 q1],.pointer (some ⟨B,0,none⟩)] W _;clear hg hs
 cases hn:Gr.nodeOf g nd with
 |none =>
  have hb:Fp g ⟨nd,ky,(p0,q0),(p1,q1)⟩=true:=by unfold Fp;simp only;rw[hn]
  rw[hb];rw[hn] at HF;clear hb hn;go_enter Tryz.func110,Tryz.ntmps110
  go_wp2_with (go_at_call 28;refine(HF.o _ gw).mono ?_;rintro e w1 ⟨rfl,R1,n1,rfl⟩)
  go_ret
  exact⟨rfl,gw⟩
 |some n =>
  have hb:Fp g ⟨nd,ky,(p0,q0),(p1,q1)⟩=(n.kind != 1):=by unfold Fp;simp only;rw[hn]
  rw[hb];rw[hn] at HF;clear hb hn;go_enter Tryz.func110,Tryz.ntmps110
  go_wp2_with (go_at_call 28;refine(HF.o _ gw).mono ?_;rintro e w1 ⟨c,rfl,h1,-,R1,n1,rfl⟩;(have hk:=h1.kind);obtain⟨cid,kind,af,cf,ap,cp,par,r0,r1,r2,r3,r4,r5,r6,r7,rfl⟩:=h1.lit;simp only at hk;(have HKD:=hY hk);clear h1 hk)
  go_ret;exact⟨by rw[HKD.o];rfl,gw⟩
theorem UG(W:World)(t b n:Nat)(m:List Tab.En)(v:Value)(g:List Gr.Nd)(hT:Au W t b n m)(hv:AV W v g)(hs:Small g): Calls Tryz.prog 76 #[.pointer (some ⟨t,0,none⟩),v] W (Ac (.bool (!(m.any (Fp g)))) W):=by
 have HA:=hY fun W' (h:AA W W')=>Gi W' t b n m (hT.grew h)
 have HV:=hY hv;have HS:=hY hs;obtain⟨a,cap,rfl,-,-⟩:=hv.openC;have HC:=hY fun W' (h:AA W W') B s u (hB:W'.cell? ⟨B,0,none⟩=some (.slice a g.length cap)) (hu:Bp W' u s)=>M8 B u s (Fp g) W' hu fun W2 x _ g2=>Re B a cap g W2 x (hv.grew (h.trans g2)) hs (Ei g2.below _ _ hB)
 clear hT hv hs;go_enter Tryz.func76,Tryz.ntmps76
 go_wp2_with (first
  | (go_at_call 41;refine(HA.o _ gw).mono ?_;rintro e w1 ⟨v1,s,rfl,h1,h2,h3,R1,n1,rfl⟩;(have HE:=hY (OwnAt.rows h1 Az));obtain⟨a1,c1,rfl⟩:=HE.o.len;(have hany:=h2.any_eq (f:=Fp g));(have HANY:=hY hany);clear h1 h2 h3 hany)
  | (go_at_call 109;refine(HC.o _ gw _ s _ (by simp[go_sem]) (HE.o.grew gw)).mono ?_;rintro e w1 ⟨rfl,R2,n2,rfl⟩;rw[HANY.o]))
 go_ret;exact⟨rfl,gw⟩
open Classical in
noncomputable def Kw(l:List Tab.En)(g:List Gr.Nd): Bool:=CG l&&(decide ((l.Pairwise fun a b=>Tab.num a<Tab.num b)∧∀x∈l,Tab.nz x=true) && !(l.any (Fp g)))
theorem A2e{l:List Tab.En}{g:List Gr.Nd}(h:CG l=false): Kw l g=false:=by unfold Kw;rw[h];rfl
open Classical in
theorem I1(v u:Value)(l:List Tab.En)(g:List Gr.Nd)(w:World)(hv:Bp w v l)(hu:AV w u g)(hs:Small g)(hl:l.length≤100000): Calls Tryz.prog 36 #[v,u] w (Ac (.bool (Kw l g)) w):=by
 have HN:=hY fun W (h:AA w W)=>M0 _ l W (hv.grew h) hl
 have HV:=hY hv;have HU:=hY hu;obtain⟨a,cap,rfl,-,-⟩:=Bp.open6 hv;obtain⟨a2,cap2,rfl,-,-⟩:=hu.openC;clear hv hu;cases hok:CG l
 case false =>
  rw[A2e hok];have HOK:=hY hok;clear hok hs;go_enter Tryz.func36,Tryz.ntmps36
  go_wp2_with fail
  refine(HN.o _ gw).mono ?_;rintro e w1 (⟨h1,-⟩|⟨-,rfl,R1,n1,rfl⟩)
  ·rw[HOK.o] at h1;cases h1
  go_wp2;go_ret;exact⟨rfl,gw⟩
 have HOK:=hY hok;by_cases hP:(l.Pairwise fun a b=>Tab.num a<Tab.num b)∧∀x∈l,Tab.nz x=true
 case neg =>
  have hb:Kw l g=false:=by unfold Kw;rw[hok,decide_eq_false hP];rfl
  rw[hb];have HP:=hY hP;clear hok hb hP hs;go_enter Tryz.func36,Tryz.ntmps36
  go_wp2_with fail
  refine(HN.o _ gw).mono ?_;rintro e w1 (⟨-,t,b,rfl,hT,hb1,hb2,R1,n1,rfl⟩|⟨h1,-⟩);rotate_left
  ·rw[HOK.o] at h1;cases h1
  have HT:=hY hT;clear hT
  go_wp2_with fail
  refine(Gi _ t b _ _ (HT.o.grew gw)).mono ?_;rintro e w2 ⟨v1,s,rfl,h1,h2,h3,R2,n2,rfl⟩;have HE:=hY (OwnAt.rows h1 Az);obtain⟨a3,c3,rfl⟩:=HE.o.len;have HNE:=hY (decide_eq_false (fun e=>HP.o ((Tab.all_iff h2 h3).1 e)));clear h1 h2 h3
  go_wp2_with (go_at_call 75;refine(Pe _ _ s l _ (HE.o.grew gw) (HV.o.grew gw)).mono ?_;rintro e w1 ⟨rfl,R3,n3,rfl⟩;rw[HNE.o])
  go_ret;exact⟨rfl,gw⟩
 have hany:(Tab.newT l).any (Fp g)=l.any (Fp g):=by rw[Tab.newT_rev l hP.1 hP.2,List.any_reverse]
 have hb:Kw l g = !(l.any (Fp g)):=by unfold Kw;rw[hok,decide_eq_true hP];rfl
 rw[hb];have HP:=hY hP;have HANY:=hY hany;clear hok hb hP hany;go_enter Tryz.func36,Tryz.ntmps36
 go_wp2_with fail
 refine(HN.o _ gw).mono ?_;rintro e w1 (⟨-,t,b,rfl,hT,hb1,hb2,R1,n1,rfl⟩|⟨h1,-⟩);rotate_left
 ·rw[HOK.o] at h1;cases h1
 have HT:=hY hT;have HS:=hY hs;clear hT hs
 go_wp2_with fail
 refine(Gi _ t b _ _ (HT.o.grew gw)).mono ?_;rintro e w2 ⟨v1,s,rfl,h1,h2,h3,R2,n2,rfl⟩;have HE:=hY (OwnAt.rows h1 Az);obtain⟨a3,c3,rfl⟩:=HE.o.len;have HNE:=hY (decide_eq_true ((Tab.all_iff h2 h3).2 HP.o));clear h1 h2 h3
 go_wp2_with (first
  | (go_at_call 75;refine(Pe _ _ s l _ (HE.o.grew gw) (HV.o.grew gw)).mono ?_;rintro e w1 ⟨rfl,R3,n3,rfl⟩;rw[HNE.o])
  | (go_at_call 76;refine(UG _ t b _ _ _ g (HT.o.grew gw) (HU.o.grew gw) HS.o).mono ?_;rintro e w1 ⟨rfl,R4,n4,rfl⟩;rw[HANY.o]))
 go_ret;exact⟨rfl,gw⟩
structure Dm (base:Nat) (W:World) (B:Nat) (vs:List Value) (ls:List (List Tab.En)):Prop where
 blk:W.heap[B]? = some (.cells vs.toArray 23)
 len:vs.length=ls.length
 own:∀(i:Nat) (v:Value) (l:List Tab.En),vs[i]? = some v→ls[i]? = some l→OwnAt base 57 6 Ci W v l
 apart:∀(i j:Nat) (v u:Value) (b:Nat),i≠j→vs[i]? = some v→vs[j]? = some u→v.ownBlock=some b→u.ownBlock≠some b
theorem Dm.grew{base:Nat}{W W':World}{B:Nat}{vs:List Value}{ls:List (List Tab.En)}(h:Dm base W B vs ls)(g:AA W W'): Dm base W' B vs ls :=
 ⟨AC g h.blk,h.len,fun i v l hi hl=>(h.own i v l hi hl).grew g,h.apart⟩
theorem PI:(Value.slice none 0 0).ownBlock=none:=rfl
theorem Dm.start{base:Nat}{W:World}{B n:Nat}(h:W.heap[B]? = some (.cells (List.replicate n (.slice none 0 0)).toArray 23)): Dm base W B (List.replicate n (.slice none 0 0)) (List.replicate n []):=by
 refine⟨h,by simp,fun i v l hi hl=>?_,fun i j v u b _ hi _ hb=>?_⟩
 ·rw[List.getElem?_replicate] at hi hl;split at hi
  ·cases hi;rw[if_pos ‹_›] at hl;cases hl;exact OwnAt.nil _
  ·cases hi
 ·rw[List.getElem?_replicate] at hi;split at hi
  ·cases hi;rw[PI] at hb;cases hb
  ·cases hi
theorem Dm.put{w wr W2 W':World}{B t:Nat}{vs:List Value}{ls:List (List Tab.En)}{v v':Value}{l:List Tab.En}{x:Tab.En}(h:Dm w.heap.size wr B vs ls)(g:AA wr W2)(ht:vs[t]? = some v)
  (hA:Ap w 57 6 Ci W2 v (l++[x]) v' W'):Dm w.heap.size (W'.setCell ⟨B,t,none⟩ v') B (vs.set t v') (ls.set t (l++[x])):=by
 obtain⟨a1,a2,a3,a4,a5⟩:=hA;have h2:=h.grew g
 obtain⟨lt',hlt'⟩:∃l0,ls[t]? = some l0:=by
  have:=(List.getElem?_eq_some_iff.1 ht).1;exact⟨_,List.getElem?_eq_getElem (by have:=h.len;omega)⟩
 have hov:=h2.own t v lt' ht hlt';have hBne:v.ownBlock≠some B:=OwnAt.other hov h2.blk (by decide);have hB':W'.heap[B]? = some (.cells vs.toArray 23):=by rw[a4 B (AB h2.blk) hBne];exact h2.blk
 have keep:∀(u:Value) (q:List Tab.En),OwnAt w.heap.size 57 6 Ci W' u q→OwnAt w.heap.size 57 6 Ci (W'.setCell ⟨B,t,none⟩ v') u q:=fun u q ho =>
  OwnAt.same ho fun b hb=>AQ fun e=>OwnAt.other ho hB' (by decide) (e▸hb)
 have hlt:t<vs.length:=(List.getElem?_eq_some_iff.1 ht).1;refine⟨?_,by simp[h.len],fun i u q hi hq=>?_,fun i j u z b hij hi hj hb=>?_⟩
 ·rw[set_self hB',List.setIfInBounds_toArray]
 ·refine keep _ _ ?_;rw[List.getElem?_set] at hi hq;by_cases e:t=i
  ·subst e;rw[if_pos rfl,if_pos hlt] at hi;rw[if_pos rfl,if_pos (by have:=h.len;omega)] at hq;cases hi;cases hq;exact a2
  ·rw[if_neg e] at hi hq;have ho:=h2.own i u q hi hq;exact OwnAt.same ho fun b hb=>a4 b (by obtain⟨-,c,hc⟩:=OwnAt.block ho hb;exact AB hc) fun hv=>h2.apart t i v u b e ht hi hv hb
 ·rw[List.getElem?_set] at hi hj
  have lt_of:∀(p:Nat) (u:Value) (b:Nat),vs[p]? = some u→u.ownBlock=some b→b<W2.heap.size:=fun p u b hp hb=>by
   have hpl:p<ls.length:=by have:=(List.getElem?_eq_some_iff.1 hp).1;have:=h.len;omega
   obtain⟨-,c,hc⟩:=OwnAt.block (h2.own p u _ hp (List.getElem?_eq_getElem hpl)) hb;exact AB hc
  by_cases e:t=i
  ·subst e;rw[if_pos rfl,if_pos hlt] at hi;rw[if_neg hij] at hj;cases hi;rcases a5 b hb with h5|h5
   ·exact h2.apart t j v z b hij ht hj h5
   ·intro hz;have:=lt_of j z b hj hz;omega
  ·rw[if_neg e] at hi;by_cases e2:t=j
   ·subst e2;rw[if_pos rfl,if_pos hlt] at hj;cases hj;intro hz;rcases a5 b hz with h5|h5
    ·exact h2.apart i t u v b hij hi ht hb h5
    ·have:=lt_of i u b hi hb;omega
   ·rw[if_neg e2] at hj;exact h2.apart i j u z b hij hi hj hb
theorem Dm.after{w wr W2 W':World}{B t:Nat}{vs:List Value}{ls:List (List Tab.En)}{v v':Value}{l l':List Tab.En}(h:Dm w.heap.size wr B vs ls)(ht:vs[t]? = some v)(hl:ls[t]? = some l)(g:AA wr W2)
  (hA:Ap w 57 6 Ci W2 v l' v' W'):W'.heap[B]? = some (.cells vs.toArray 23)∧W'.cell? ⟨B,t,none⟩=some v∧W'.frozen? ⟨B,t,none⟩=false∧Ad B W'∧∃a c,v' = .slice a l'.length c:=by
 obtain⟨a1,a2,a3,a4,a5⟩:=hA;have hb:=AC g h.blk
 have hb':W'.heap[B]? = some (.cells vs.toArray 23):=by
  rw[a4 B (AB hb) (OwnAt.other ((h.own t v l ht hl).grew g) hb (by decide))];exact hb
 refine⟨hb',?_,AJ hb',Ad.mk (AB hb'),(OwnAt.rows a2 Az).len⟩;rw[cell_of hb'];simpa using ht
abbrev UnE(m:List Tab.En): Prop:=m.Pairwise fun a b=>Tab.num a≠Tab.num b
abbrev SoE(m:List Tab.En): Prop:=m.Pairwise fun a b=>Tab.num a≤Tab.num b
theorem Xp{m s s':List Tab.En}(hu:UnE m)(h1:s.Perm m)(h2:s'.Perm m)(o1:SoE s)(o2:SoE s'): s=s':=by
 refine List.Perm.eq_of_pairwise (le:=fun a b=>Tab.num a≤Tab.num b) (fun a b ha hb e1 e2=>?_) o1 o2 (h1.trans h2.symm);exact We hu (h1.mem_iff.1 ha) (h2.mem_iff.1 hb) (by omega)
def Jj(nd:Int)(gs:List Int)(x:Tab.En): Bool:=decide (x.node=nd)&&decide (x.key%8∈gs)
def Dv(m:List Tab.En)(n k:Int): Val×Val:=match m.find? fun x=>Tab.num x==n*64+k with
 | none=>((0,0),(0,0))
 | some x=>(x.c0,x.c1)
theorem Gj{m:List Tab.En}{n k:Int}(h:∀x∈m,Tab.num x≠n*64+k): Dv m n k=((0,0),(0,0)):=by
 unfold Dv;rw[List.find?_eq_none.2 fun x hx=>by simpa using h x hx]
theorem JE{m:List Tab.En}(hu:UnE m){x:Tab.En}(hx:x∈m){n k:Int}(h:Tab.num x=n*64+k): Dv m n k=(x.c0,x.c1):=by
 unfold Dv
 cases hf:m.find? fun x=>Tab.num x==n*64+k with
 |none =>
  have:=List.find?_eq_none.1 hf x hx
  simp[h] at this
 |some y =>
  have h1:=List.find?_some hf;have h2:=List.mem_of_find?_eq_some hf;have h3:Tab.num y=n*64+k:=by simpa using h1
  rw[We hu h2 hx (h3.trans h.symm)]
theorem EN(m:List Tab.En)(n k:Int): (∃x∈m,Tab.num x=n*64+k∧Dv m n k=(x.c0,x.c1))∨((∀x∈m,Tab.num x≠n*64+k)∧Dv m n k=((0,0),(0,0))):=by
 cases hf:m.find? fun x=>Tab.num x==n*64+k with
 |none =>
  have:=List.find?_eq_none.1 hf;refine .inr ⟨fun x hx=>by simpa using this x hx,?_⟩;unfold Dv
  rw[hf]
 |some y =>
  have h1:=List.find?_some hf;have h2:=List.mem_of_find?_eq_some hf;refine .inl ⟨y,h2,by simpa using h1,?_⟩;unfold Dv;rw[hf]
theorem A26{x:Tab.En}(h:Tab.nz x=false): x.c0=(0,0)∧x.c1=(0,0):=by
 unfold Tab.nz at h;simpa using h
theorem A3G{x:Tab.En}(h:Tab.nz x=true): (x.c0,x.c1)≠(((0,0),(0,0)):Val×Val):=by
 unfold Tab.nz at h;intro e;injection e with e1 e2
 rw[e1,e2] at h;simp at h
theorem Ry{m:List Tab.En}{x y:Tab.En}(h:y∈Tab.setT m x): y=x∨(y∈m∧Tab.num y≠Tab.num x):=by
 unfold Tab.setT at h;split at h
 ·rcases List.mem_cons.1 h with h|h
  ·exact .inl h
  ·exact .inr ⟨(List.mem_filter.1 h).1,by simpa using (List.mem_filter.1 h).2⟩
 ·exact .inr ⟨(List.mem_filter.1 h).1,by simpa using (List.mem_filter.1 h).2⟩
theorem Qc{m:List Tab.En}(h:UnE m)(x:Tab.En): UnE (Tab.setT m x):=by
 unfold Tab.setT;split
 ·refine List.pairwise_cons.2 ⟨fun y hy e=>?_,h.filter _⟩;have:=(List.mem_filter.1 hy).2;simp[e] at this
 ·exact h.filter _
theorem Mw{m:List Tab.En}(hu:UnE m)(x:Tab.En)(n k:Int): Dv (Tab.setT m x) n k=if Tab.num x=n*64+k then (x.c0,x.c1) else Dv m n k:=by
 split
 ·rename_i h
  cases hz:Tab.nz x
  ·obtain⟨e1,e2⟩:=A26 hz;rw[e1,e2];refine Gj fun y hy e=>?_
   unfold Tab.setT at hy;rw[hz,if_neg (by simp)] at hy;have:=(List.mem_filter.1 hy).2;simp[e,h] at this
  ·refine JE (Qc hu x) ?_ h;unfold Tab.setT;rw[if_pos hz];exact List.mem_cons_self ..
 ·rename_i h
  rcases EN m n k with ⟨y,hy,h1,h2⟩|⟨h1,h2⟩
  ·rw[h2];refine JE (Qc hu x) ?_ h1;have hf:y∈m.filter fun y=>Tab.num y != Tab.num x:=List.mem_filter.2 ⟨hy,by rw[h1,bne_iff_ne];exact fun e=>h e.symm⟩
   unfold Tab.setT;split
   ·exact List.mem_cons_of_mem _ hf
   ·exact hf
  ·rw[h2];refine Gj fun y hy e=>?_
   rcases Ry hy with rfl|⟨h3,_⟩
   ·exact h e
   ·exact h1 y h3 e
structure GI (m:List Tab.En):Prop where
 un:UnE m
 nz:∀x∈m,Tab.nz x=true
 ok:∀x∈m,EA x=true
theorem Mx{x:Tab.En}(h:EA x=true): CF x:=by
 unfold EA at h;rw[Bool.and_eq_true] at h;exact EQ.1 h.1
theorem GI.there{m:List Tab.En}(h:GI m): ∀x∈m,CF x:=fun x hx=>Mx (h.ok x hx)
theorem GI.nil:GI []:=⟨List.Pairwise.nil,fun x hx=>(by cases hx),fun x hx=>(by cases hx)⟩
theorem GI.set{m:List Tab.En}(h:GI m){x:Tab.En}(hx:EA x=true): GI (Tab.setT m x):=by
 refine⟨Qc h.un x,fun y hy=>?_,fun y hy=>?_⟩
 ·unfold Tab.setT at hy;split at hy
  ·rcases List.mem_cons.1 hy with rfl|h2
   ·assumption
   ·exact h.nz y (List.mem_filter.1 h2).1
  ·exact h.nz y (List.mem_filter.1 hy).1
 ·rcases Ry hy with rfl|⟨h2,_⟩
  ·exact hx
  ·exact h.ok y h2
theorem GI.filter{m:List Tab.En}(h:GI m)(p:Tab.En→Bool): GI (m.filter p):=⟨h.un.filter _,fun x hx=>h.nz x (List.mem_filter.1 hx).1,fun x hx=>h.ok x (List.mem_filter.1 hx).1⟩
theorem GI.new{l:List Tab.En}(h:CG l=true): GI (Tab.newT l):=by
 have ho:=Tab.newT_ok l;unfold CG at h;rw[List.all_eq_true] at h;exact⟨ho.un,ho.nz,fun x hx=>h x (ho.sub x hx)⟩
theorem GI.perm{m m':List Tab.En}(h:GI m)(h':GI m')(he:∀n k:Int,0≤n→n<8→0≤k→k<64→Dv m n k=Dv m' n k): m.Perm m':=by
 have hn:∀{l:List Tab.En},UnE l→l.Nodup:=fun hp=>by
  rw[List.nodup_iff_pairwise_ne];exact hp.imp fun h e=>h (by rw[e])
 have half:∀{m m':List Tab.En},GI m→GI m'→(∀n k:Int,0≤n→n<8→0≤k→k<64→Dv m n k=Dv m' n k)→∀x∈m,x∈m':=by
  intro m m' h h' he x hx;have ht:=h.there x hx;unfold CF at ht;have e1:=JE h.un hx (n:=x.node) (k:=x.key) rfl;have e2:=he x.node x.key (by omega) (by omega) (by omega) (by omega);rcases EN m' x.node x.key with ⟨y,hy,h1,h2⟩|⟨h1,h2⟩
  ·have hy':=h'.there y hy;obtain⟨q1,q2⟩:=(hy'.inj (h.there x hx)).1 (h1.trans rfl);rw[e1,h2] at e2;injection e2 with e3 e4
   obtain⟨a,b,c,d⟩:=x;obtain⟨a',b',c',d'⟩:=y;simp only at q1 q2 e3 e4;subst q1 q2 e3 e4;exact hy
  ·rw[e1,h2] at e2;exact absurd e2 (A3G (h.nz x hx))
 rw[List.perm_ext_iff_of_nodup (hn h.un) (hn h'.un)];exact fun x=>⟨half h h' he x,half h' h (fun n k a b c d=>(he n k a b c d).symm) x⟩
abbrev zer:Val×Val:=((0,0),(0,0))
def Rk(p:List Val)(c:Val×Val)(v:Val): Vm.Res:=Vm.each p ⟨[],c.1,c.2,0⟩ [v]
def runT(m:List Tab.En)(nd:Int)(p:List Val)(ky:Int)(v:Val): Int×List Val×List Tab.En :=
 if (CW nd ky&&(CW 0 ky&&Ao v))=false then (1,[],m)
 else if Vm.safe p=false then (9,[],m)
 else (0,(Rk p (Dv m nd ky) v).out,Tab.setT m ⟨nd,ky,(Rk p (Dv m nd ky) v).c0,(Rk p (Dv m nd ky) v).c1⟩)
theorem QS:Ao ((0,0):Val)=true:=Vm.right_of (by decide) (by decide)
theorem WO{m:List Tab.En}(h:GI m)(n k:Int): Ao (Dv m n k).1=true∧Ao (Dv m n k).2=true:=by
 rcases EN m n k with ⟨x,hx,_,e⟩|⟨_,e⟩
 ·rw[e];have:=h.ok x hx;unfold EA at this;simp only[Bool.and_eq_true] at this;exact this.2
 ·rw[e];exact⟨QS,QS⟩
theorem ZT(m:List Tab.En)(nd:Int)(p:List Val)(ky:Int)(v:Val): (runT m nd p ky v).1=if (CW nd ky&&(CW 0 ky&&Ao v))=false then 1 else if Vm.safe p=false then 9 else 0:=by
 unfold runT;split
 ·rfl
 ·split<;>rfl
theorem WP{m:List Tab.En}(h:GI m){nd:Int}{p:List Val}{ky:Int}{v:Val}{n k:Int}(hne:nd*64+ky≠n*64+k): Dv (runT m nd p ky v).2.2 n k=Dv m n k:=by
 unfold runT;split
 ·rfl
 ·split
  ·rfl
  ·simp only;rw[Mw h.un];exact if_neg hne
theorem ZU{m:List Tab.En}(h:GI m){nd:Int}{p:List Val}{ky:Int}{v:Val}(h0:(runT m nd p ky v).1=0): Dv (runT m nd p ky v).2.2 nd ky=((Rk p (Dv m nd ky) v).c0,(Rk p (Dv m nd ky) v).c1)∧(runT m nd p ky v).2.1=(Rk p (Dv m nd ky) v).out:=by
 unfold runT at h0 ⊢;split
 ·rw[if_pos (by assumption)] at h0;cases h0
 ·rw[if_neg (by assumption)] at h0;split
  ·rw[if_pos (by assumption)] at h0;cases h0
  ·simp only;rw[Mw h.un];exact⟨if_pos rfl,trivial⟩
abbrev CR:=Int→Int→Val×Val
def OB(f:CR)(j:Nat): Tab.En:=⟨((j / 64:Nat):Int),((j%64:Nat):Int),(f ((j / 64:Nat):Int) ((j%64:Nat):Int)).1,(f ((j / 64:Nat):Int) ((j%64:Nat):Int)).2⟩
theorem Kt(f:CR)(j:Nat): Tab.num (OB f j)=(j:Int):=by
 unfold Tab.num OB;simp only;omega
theorem RZ(f:CR){n k:Nat}(hk:k<64): OB f (n*64+k)=⟨(n:Int),(k:Int),(f n k).1,(f n k).2⟩:=by
 unfold OB;have h1:(n*64+k) / 64=n:=by omega
 have h2:(n*64+k)%64=k:=by omega
 rw[h1,h2]
def Bv(f:CR)(i:Nat): List Tab.En:=((List.range i).map (OB f)).filter Tab.nz
theorem UD(f:CR)(i:Nat): Bv f (i+1)=Bv f i++(if Tab.nz (OB f i) then [OB f i] else []):=by
 unfold Bv;rw[List.range_succ,List.map_append,List.filter_append]
 congr 1
 simp[List.filter_cons]
theorem WB(f:CR)(i:Nat): (Bv f i).length≤i:=by
 unfold Bv;refine Nat.le_trans (List.length_filter_le _ _) ?_;simp
theorem Lg(f:CR)(i:Nat): (Bv f i).Pairwise fun a b=>Tab.num a<Tab.num b:=by
 unfold Bv;refine List.Pairwise.filter _ ?_;rw[List.pairwise_map];refine List.pairwise_lt_range.imp fun {a b} h=>?_
 rw[Kt,Kt];omega
theorem Gz{f:CR}{i:Nat}{x:Tab.En}: x∈Bv f i↔∃j,j<i∧OB f j=x∧Tab.nz x=true:=by
 unfold Bv;rw[List.mem_filter,List.mem_map];constructor
 ·rintro⟨⟨j,h1,h2⟩,h3⟩;exact⟨j,List.mem_range.1 h1,h2,h3⟩
 ·rintro⟨j,h1,h2,h3⟩;exact⟨⟨j,List.mem_range.2 h1,h2⟩,h3⟩
theorem WC(f:CR){n k:Nat}(hn:n<8)(hk:k<64): Dv (Bv f 512) n k=f n k:=by
 have hu:UnE (Bv f 512):=(Lg f 512).imp fun h=>by omega
 have he:=RZ f (n:=n) hk;cases hz:Tab.nz (OB f (n*64+k))
 ·have h0:=A26 hz;rw[he] at h0;simp only at h0;rw[Gj fun x hx e=>?_]
  ·rw[Prod.ext_iff];exact⟨h0.1.symm,h0.2.symm⟩
  ·obtain⟨j,hj,rfl,h3⟩:=Gz.1 hx;rw[Kt] at e;obtain rfl:j=n*64+k:=by omega
   rw[hz] at h3;cases h3
 ·rw[JE hu (Gz.2 ⟨n*64+k,by omega,rfl,hz⟩) (by rw[Kt];omega),he]
def Dt(m:List Tab.En)(f:CR): Prop:=∀n k:Int,0≤n→n<8→0≤k→k<64→Dv m n k=f n k
theorem Dt.cells{m:List Tab.En}{f:CR}(ho:GI m)(h:Dt m f): GI (Bv f 512):=by
 refine⟨(Lg f 512).imp fun h=>by omega,fun x hx=>?_,fun x hx=>?_⟩
 ·obtain⟨j,_,_,h3⟩:=Gz.1 hx;exact h3
 ·obtain⟨j,hj,rfl,h3⟩:=Gz.1 hx;have h1:=h ((j / 64:Nat):Int) ((j%64:Nat):Int) (by omega) (by omega) (by omega) (by omega);obtain⟨r0,r1⟩:=WO ho ((j / 64:Nat):Int) ((j%64:Nat):Int);rw[h1] at r0 r1;unfold EA;rw[Bool.and_eq_true,Bool.and_eq_true];refine⟨EQ.2 ?_,r0,r1⟩;unfold CF OB;simp only;omega
theorem Dt.all{m s:List Tab.En}{f:CR}(ho:GI m)(h:Dt m f)(hp:s.Perm m)(hs:SoE s): s=Bv f 512:=by
 have hc:=h.cells ho;refine Xp ho.un hp ?_ hs ((Lg f 512).imp fun h=>by omega);refine hc.perm ho fun n k a b c d=>?_
 obtain⟨n,rfl⟩:=Int.eq_ofNat_of_zero_le a;obtain⟨k,rfl⟩:=Int.eq_ofNat_of_zero_le c;rw[WC f (by omega) (by omega)];exact(h n k a b c d).symm
theorem Dt.nil:Dt [] (fun _ _=>zer):=fun n k _ _ _ _=>rfl
def WE(f:CR)(n k:Int)(c:Val×Val): CR:=fun a b=>if a=n∧b=k then c else f a b
theorem Dt.set{m:List Tab.En}{f:CR}(ho:GI m)(h:Dt m f){x:Tab.En}(hx:CF x): Dt (Tab.setT m x) (WE f x.node x.key (x.c0,x.c1)):=by
 intro n k a b c d;rw[Mw ho.un];unfold CF at hx;unfold WE Tab.num;by_cases e:n=x.node∧k=x.key
 ·obtain⟨rfl,rfl⟩:=e;rw[if_pos rfl,if_pos ⟨rfl,rfl⟩]
 ·rw[if_neg (fun q=>e (by omega)),if_neg e];exact h n k a b c d
def A3B(f:CR)(nd:Int)(gs:List Int): CR:=fun a b=>if a=nd∧b%8∈gs then zer else f a b
theorem Dt.drop{m:List Tab.En}{f:CR}(ho:GI m)(h:Dt m f)(nd:Int)(gs:List Int): Dt (m.filter fun x=> !Jj nd gs x) (A3B f nd gs):=by
 intro n k a b c d;have hf:=(ho.filter fun x=> !Jj nd gs x);unfold A3B;split
 ·rename_i e
  obtain⟨rfl,e2⟩:=e;refine Gj fun x hx e3=>?_
  obtain⟨h1,h2⟩:=List.mem_filter.1 hx;have ht:=ho.there x h1;unfold CF at ht;unfold Tab.num at e3;have e4:x.node=n:=by omega
  have e5:x.key=k:=by omega
  unfold Jj at h2;simp[e4,e5,e2] at h2
 ·rename_i e
  rw[←h n k a b c d];rcases EN m n k with ⟨x,hx,h1,h2⟩|⟨h1,h2⟩
  ·rw[h2];have ht:=ho.there x hx;unfold CF at ht;unfold Tab.num at h1;have e4:x.node=n:=by omega
   have e5:x.key=k:=by omega
   refine JE hf.un (List.mem_filter.2 ⟨hx,?_⟩) h1;unfold Jj;rw[e4,e5];by_cases q1:n=nd
   ·have q2:k%8∉gs:=fun q=>e ⟨q1,q⟩
    simp[q1,q2]
   ·simp[q1]
  ·rw[h2];exact Gj fun x hx=>h1 x (List.mem_filter.1 hx).1
def A4Y(f:CR)(nd:Int)(p:List Val)(ky:Int)(v:Val): CR:=WE f nd ky ((Rk p (f nd ky) v).c0,(Rk p (f nd ky) v).c1)
theorem Dt.run{m:List Tab.En}{f:CR}(ho:GI m)(h:Dt m f){nd:Int}{p:List Val}{ky:Int}{v:Val}(h0:(runT m nd p ky v).1=0): Dt (runT m nd p ky v).2.2 (A4Y f nd p ky v)∧(runT m nd p ky v).2.1=(Rk p (f nd ky) v).out∧CW nd ky=true:=by
 have hs:=ZU ho h0
 have ht:CW nd ky=true:=by
  rw[ZT] at h0;split at h0
  ·cases h0
  ·rename_i q
   simp only[Bool.not_eq_false,Bool.and_eq_true] at q;exact q.1
 have hth:=(EQ (x:=⟨nd,ky,v,v⟩)).1 ht;unfold CF at hth;simp only at hth;have hg:=h nd ky hth.1.1 hth.1.2 hth.2.1 hth.2.2;rw[hg] at hs;refine⟨fun n k a b c d=>?_,hs.2,ht⟩;unfold A4Y WE;split
 ·rename_i e
  obtain⟨rfl,rfl⟩:=e;rw[hs.1]
 ·rename_i e
  rw[WP ho (fun q=>e (by omega))];exact h n k a b c d
end Go.Proofs.YtgebkpgilgppgaaGreat
