import Derived.Test.YtgebkpgilgppgaaGreatMw39
import Derived.Test.YtgebkpgilgppgaaGreatMw21
import Derived.Test.YtgebkpgilgppgaaGreatMw37
import Derived.Test.YtgebkpgilgppgaaGreatMw5
import Derived.Test.YtgebkpgilgppgaaGreatMw32
import Derived.Deep.QuietTactic
import Derived.BigQuiet
import Derived.Deep.LoopGhost
import Derived.Deep.RegionHeld3
import Derived.Deep.CutBlock
import Derived.Test.YtgebkpgilgppgaaGreatMw0
set_option linter.unusedSimpArgs false
set_option linter.unusedVariables false
set_option maxRecDepth 100000
set_option maxHeartbeats 64000000
namespace Go.Proofs.YtgebkpgilgppgaaGreat
open Go.RowKit Ga
theorem DF.grew{W W':World}{g:List Gr.Nd}{m:List (Ca×CV)}{f:Ca→Fq}(h:DF W g m f)(q:AA W W'): DF W' g m f:=fun t ht=>by
 obtain⟨c,h1,h2⟩:=h t ht;exact⟨c,h1,h2.grew q⟩
def Zk:Value:=.tuple #[.agg #[.int .i64 0,.int .i64 0,.slice none 0 0,.slice none 0 0,.slice none 0 0,.slice none 0 0,.slice none 0 0],.int .i64 1]
open Classical in
theorem QR{a b:List Gr.Nd}: IQ a b=true↔a=b:=by unfold IQ;rw[decide_eq_true_eq]
theorem A2g(m:List Tab.En)(x:Tab.En): (Tab.setT m x).length≤m.length+1:=by
 unfold Tab.setT;split
 ·rw[List.length_cons];have:=List.length_filter_le (fun y=>Tab.num y != Tab.num x) m;omega
 ·have:=List.length_filter_le (fun y=>Tab.num y != Tab.num x) m;omega
theorem A2h(l:List Tab.En): (Tab.newT l).length≤l.length:=by
 have h:∀(l m:List Tab.En),(l.foldl Tab.setT m).length≤m.length+l.length:=by
  intro l
  induction l with
  | nil=>intro m;simp
  |cons x l ih =>
   intro m;have h1:=ih (Tab.setT m x);have h2:=A2g m x;rw[List.foldl_cons,List.length_cons];omega
 have:=h l [];rw[List.length_nil,Nat.zero_add] at this;exact this
theorem A2i{W:World}{g:List Gr.Nd}{m:List (Ca×CV)}{f:Ca→Fq}(h:DF W g m f): (Lm g f (Af g)).length≤(Af g).length*100 :=
 DI fun y hy=>by
  obtain⟨-,-,-,-,-,q4,-⟩:=h y hy;split
  ·simp
  ·exact q4
theorem JM{g:List Gr.Nd}(h:Gr.RightR g){n:Gr.Nd}(hn:n∈g): Gr.nodeOf g n.id=some n:=Gr.bind_find h.ids hn
theorem ZJ{g:List Gr.Nd}(h:Gr.RightR g){n:Gr.Nd}(hn:n∈g): kindOf g n.id=n.kind:=by
 unfold kindOf;rw[JM h hn];rfl
theorem I6{α β:Type}{f g:α→List β}: ∀{l:List α},(∀x∈l,f x=g x)→l.flatMap f=l.flatMap g
 | [],_=>rfl
 | x::l,h=>by rw[List.flatMap_cons,List.flatMap_cons,h x (List.mem_cons_self ..),I6 fun y hy=>h y (List.mem_cons_of_mem _ hy)]
theorem BL.map_eq{α β γ:Type}{R:α→β→Prop}{f:α→γ}{g:β→γ}(h:∀a b,R a b→f a=g b): ∀{xs:List α} {ys:List β},BL R xs ys→xs.map f=ys.map g
 | [],[],_=>rfl
 | a::xs,b::ys,⟨h1,h2⟩=>by rw[List.map_cons,List.map_cons,h a b h1,BL.map_eq h h2]
theorem NR{α β γ:Type}(q:β→List γ)(f:α→Option β)(l:List α): (l.filterMap f).flatMap q=l.flatMap fun x=>(f x).elim [] q:=by
 induction l with
 | nil=>rfl
 |cons x l ih =>
  rw[List.flatMap_cons,←ih]
  cases h:f x with
  | none=>rw[List.filterMap_cons_none h];rfl
  | some y=>rw[List.filterMap_cons_some h,List.flatMap_cons];rfl
theorem Ya(g:List Gr.Nd)(wh:Wh): Ak g wh 8=(Gr.normG g).flatMap fun n=>Hu wh n n.par.toNat:=by
 unfold Ak Gr.normG;rw[NR]
noncomputable def ET(g:List Gr.Nd)(wh:Wh): Ca→Fq:=fun t=>match Gr.nodeOf g t.1 with
 | some n=>J3 wh n t.2.toNat
 | none=>⟨[],[],0⟩
theorem FM{g:List Gr.Nd}(h:Gr.RightR g): Gr.RightR (Gr.normG g):=h.perm (Gr.normG_perm h.ids h.r7).symm
theorem NS{g:List Gr.Nd}(h:Gr.RightR g)(wh:Wh): Ak g wh 8=(Af (Gr.normG g)).map fun t=>(t,ET (Gr.normG g) wh t):=by
 have hr:=FM h;rw[Ya];unfold Af;rw[List.map_flatMap];refine I6 fun n hn=>?_
 unfold Hu;rw[List.map_map];refine List.map_congr_left fun k hk=>?_
 simp only[Function.comp,ET,JM hr hn,Int.toNat_natCast]
def EG(L:List (Ca×Fq)): List Int:=L.flatMap fun y=>if y.1.1=0 then [y.2.off] else []
def Fh(L:List (Ca×Fq)): List Gr.Ln:=L.flatMap fun y=>y.2.lines
def EH(L:List (Ca×Fq)): List Tab.En:=L.flatMap fun y=>y.2.ents
theorem LX{g:List Gr.Nd}(h:Gr.RightR g){t:Ca}(ht:t∈Af g): ∃n∈g,t.1=n.id∧Gr.nodeOf g t.1=some n∧kindOf g t.1=n.kind∧(n.id=0↔n.kind=0)∧0≤n.kind∧n.kind≤2:=by
 obtain⟨n,hn,h1,-⟩:=I8.1 ht;obtain⟨i,ho⟩:=h.at hn;exact⟨n,hn,h1,by rw[h1];exact JM h hn,by rw[h1];exact ZJ h hn,ho.src,ho.kd0,ho.kd2⟩
theorem A2E{g:List Gr.Nd}(h:Gr.RightR g)(wh:Wh): Hw g (ET g wh) (Af g)=EG ((Af g).map fun t=>(t,ET g wh t)):=by
 unfold Hw EG;rw[List.flatMap_map];refine I6 fun t ht=>?_
 obtain⟨n,-,h1,-,h3,h4,-⟩:=LX h ht;rw[h3,h1];by_cases hz:n.id=0
 ·rw[if_pos (h4.1 hz),if_pos hz]
 ·rw[if_neg (fun e=>hz (h4.2 e)),if_neg hz]
theorem A3c{g:List Gr.Nd}(h:Gr.RightR g)(wh:Wh): Ll g (ET g wh) (Af g)=Fh ((Af g).map fun t=>(t,ET g wh t)):=by
 unfold Ll Fh;rw[List.flatMap_map];refine I6 fun t ht=>?_
 obtain⟨n,-,h1,h2,h3,-,h5,h6⟩:=LX h ht;rw[h3];split
 ·rfl
 ·rename_i hk
  have hl:(ET g wh t).lines=[]:=by
   unfold ET;rw[h2];exact if_pos (by omega)
  exact hl.symm
theorem A3d{g:List Gr.Nd}(h:Gr.RightR g)(wh:Wh): Lm g (ET g wh) (Af g)=EH ((Af g).map fun t=>(t,ET g wh t)):=by
 unfold Lm EH;rw[List.flatMap_map];refine I6 fun t ht=>?_
 obtain⟨n,-,h1,h2,h3,-,h5,h6⟩:=LX h ht;rw[h3];split
 ·rename_i hk
  have hl:(ET g wh t).ents=[]:=by
   unfold ET;rw[h2];exact if_neg (by omega)
  exact hl.symm
 ·rfl
def Cq(lc:List CV): List (Ca×CV):=(lc.map fun c=>(((c.node,c.ix):Ca),c)).reverse
theorem VN(lc:List CV)(c:CV): Cq (lc++[c])=((c.node,c.ix),c)::Cq lc:=by
 unfold Cq;rw[List.map_append,List.reverse_append];rfl
theorem Py(lc:List CV): (Cq lc).length=lc.length:=by simp[Cq]
theorem A0b{W:World}{lc:List CV}{L:List (Ca×Fq)}(h:BL (I5 W) lc L): lc.map (fun c=>((c.node,c.ix):Ca))=L.map (·.1) :=
 BL.map_eq (fun a b q=>by rw[q.1,q.2.1]) h
theorem XH{W:World}{g:List Gr.Nd}{wh:Wh}{lc:List CV}{L:List (Ca×Fq)}(h:BL (I5 W) lc L)(hp:L.Perm ((Af g).map fun t=>(t,ET g wh t)))(hs:g.Pairwise fun a b=>a.id<b.id): lc.Pairwise fun a b=>((a.node,a.ix):Ca)≠(b.node,b.ix):=by
 have h1:=(hp.map (·.1)).symm;rw[List.map_map,←A0b h] at h1
 have h2:(lc.map fun c=>((c.node,c.ix):Ca)).Nodup:=h1.nodup (by
  have:(Af g).map ((fun y:Ca×Fq=>y.1)∘fun t=>(t,ET g wh t))=Af g:=List.map_id _;rw[this]
  exact Jg hs)
 rw[List.Nodup,List.pairwise_map] at h2;exact h2
theorem Yb{W:World}{g:List Gr.Nd}{wh:Wh}{lc:List CV}{L:List (Ca×Fq)}(h:BL (I5 W) lc L)(hp:L.Perm ((Af g).map fun t=>(t,ET g wh t)))(hs:g.Pairwise fun a b=>a.id<b.id): DF W g (Cq lc) (ET g wh):=by
 intro t ht;obtain⟨i,hi,e⟩:=List.mem_iff_getElem.1 (hp.mem_iff.2 (List.mem_map.2 ⟨t,ht,rfl⟩));have hil:i<lc.length:=by rw[BL.len h];exact hi
 obtain⟨q1,q2,-,q4⟩:=BL.get h i lc[i] (t,ET g wh t) (List.getElem?_eq_getElem hil) (by rw[List.getElem?_eq_getElem hi,e]);refine⟨lc[i],Zy ?_ ?_,q4⟩
 ·unfold Cq;rw[List.pairwise_reverse,List.pairwise_map];exact(XH h hp hs).imp fun q e=>q e.symm
 ·unfold Cq;rw[List.mem_reverse];refine List.mem_map.2 ⟨lc[i],List.getElem_mem hil,?_⟩;rw[q1,q2]
theorem Yc{W:World}{g:List Gr.Nd}{wh:Wh}{lc:List CV}{L:List (Ca×Fq)}(hr:Gr.RightR g)(h:BL (I5 W) lc L)(hp:L.Perm ((Af g).map fun t=>(t,ET g wh t)))(hs:g.Pairwise fun a b=>a.id<b.id){k:Nat}(hk:k<lc.length): OH g 9 (Cq (lc.take k)) lc[k]=0∧Kz (lc[k].node,lc[k].ix):=by
 have hk2:k<L.length:=by rw[←BL.len h];exact hk
 obtain⟨q1,q2,q3,-⟩:=BL.get h k lc[k] L[k] (List.getElem?_eq_getElem hk) (List.getElem?_eq_getElem hk2);obtain⟨t,ht,e⟩:=List.mem_map.1 (hp.mem_iff.1 (List.getElem_mem hk2));rw[←e] at q1 q2;simp only at q1 q2;obtain⟨n,hn,h1,h2,h3⟩:=I8.1 ht
 have hno:EM (Cq (lc.take k)) (lc[k].node,lc[k].ix)=none:=Sa fun x hx e=>by
  unfold Cq at hx;rw[List.mem_reverse] at hx;obtain⟨y,hy,rfl⟩:=List.mem_map.1 hx;obtain⟨j,hj,hje⟩:=List.mem_iff_getElem.1 hy;rw[List.length_take] at hj;rw[List.getElem_take] at hje;have h1:=List.pairwise_iff_getElem.1 (XH h hp hs) j k (by omega) hk (by omega);rw[hje] at h1;exact h1 e
 have h7:=hr.r7 n hn;have hpar:=(DN hr n hn).1;refine⟨?_,by unfold Kz;simp only;omega⟩;unfold OH;rw[show lc[k].node=n.id by rw[q1,h1],JM hr hn];simp only;rw[if_neg (by omega),if_neg (by omega)];rw[show((n.id,lc[k].ix):Ca)=(lc[k].node,lc[k].ix) by rw[q1,h1],hno];rfl
noncomputable def FN(g:List Gr.Nd)(p:List Gr.Stp): Int×Nat×List Gr.Nd:=if p=[] then (0,0,g) else Gr.applyE AP g p
theorem VO{g g':List Gr.Nd}(hp:g.Perm g')(p:List Gr.Stp): (FN g p).1=(FN g' p).1∧(FN g p).2.2.Perm (FN g' p).2.2:=by
 unfold FN;split
 ·exact⟨rfl,hp⟩
 ·obtain⟨h1,-,h3⟩:=Gr.applyE_perm Ld p hp;exact⟨h1,h3⟩
theorem A0c{g:List Gr.Nd}(h:Gr.RightR g){p:List Gr.Stp}(h0:(FN g p).1=0): Gr.RightR (FN g p).2.2:=by
 unfold FN at h0 ⊢;split
 ·exact h
 ·rename_i hp
  rw[if_neg hp] at h0;exact Bj (QL h0)
theorem newT_snoc(l:List Tab.En)(x:Tab.En): Tab.newT (l++[x])=Tab.setT (Tab.newT l) x:=by
 unfold Tab.newT;rw[List.foldl_append];rfl
def Qy(u:Nat→Value): Act:={ tmps:=#[u 0,u 1,u 2,u 3,u 4,u 5,u 6,u 7,u 8,u 9,u 10,u 11,u 12,u 13,u 14,u 15,u 16,u 17,u 18,u 19,u 20,u 21,u 22,u 23,u 24,u 25,u 26,u 27,u 28,u 29,u 30,u 31,u 32,u 33,u 34,u 35,u 36,u 37,u 38,u 39,u 40,u 41,u 42,u 43,u 44,u 45,u 46,u 47,u 48,u 49,u 50,u 51,u 52,u 53,u 54,u 55,u 56,u 57,u 58,u 59,u 60,u 61,u 62,u 63,u 64,u 65,u 66,u 67,u 68,u 69,u 70,u 71,u 72,u 73,u 74,u 75,u 76,u 77,u 78,u 79,u 80,u 81,u 82,u 83,u 84,u 85,u 86,u 87,u 88,u 89,u 90,u 91,u 92,u 93,u 94,u 95,u 96,u 97,u 98,u 99,u 100],defers:=[] }
def TE(n:Nat): Code→Bool
 | .region k _ _=>k==n
 | .seq a _=>TE n a
 | _=>false
def Ie(n:Nat): Code→Option Code
 |.seq a b=>if TE n a then some (.seq a b) else match Ie n a with
  | some c=>some c
  | none=>Ie n b
 | .loop c=>Ie n c
 | .block _ c=>Ie n c
 | .scope c=>Ie n c
 |.cond _ a b=>match Ie n a with
  | some c=>some c
  | none=>Ie n b
 | _=>none
noncomputable def A3b(n:Nat): Code:=(Tryz.f11.body.bind (Ie n)).getD .skip
def XF(M pm:Gr.Mf)(g:List Gr.Nd): Prop:=BS M=true∧pm.epoch<M.epoch∧pm.graph=g
def XG(w:World)(ep pp:Int)(pm:Gr.Mf)(g:List Gr.Nd)(os:List Int)(xs:List Gr.Ln)(m2:List Tab.En)(l9:List Gr.Nd)(plan:List Gr.Stp)(e:Ending)(w':World): Prop :=
 ∃s,s.Perm m2∧(s.Pairwise fun a b=>Tab.num a≤Tab.num b)∧(XF ⟨ep,pp,os,Gr.normG l9,s,xs,plan⟩ pm g→∃c':Dy,e = .returned (.tuple #[.agg #[.int .i64 c'.epoch,.int .i64 c'.plans,.slice c'.ao c'.no c'.co,.slice c'.ag c'.ng c'.cg,.slice c'.ae c'.ne c'.ce,.slice c'.ax c'.nx c'.cx,.slice c'.ap c'.np c'.cp],.int .i64 0])∧Dl w' c' ⟨ep,pp,os,Gr.normG l9,s,xs,plan⟩∧AA w w') ∧
  (¬XF ⟨ep,pp,os,Gr.normG l9,s,xs,plan⟩ pm g→e = .returned Zk∧AA w w')
structure A3A (w0 W:World) (x P Z M tt bt nt:Nat) (a:Act) (gv v11:Value) (ep pp pe:Int) (pc:Dy) (os:List Int) (xs:List Gr.Ln) (plan:List Gr.Stp) (m2:List Tab.En) (l9:List Gr.Nd) (ao:Option Addr) (co:Nat) (ax:Option Addr) (cx:Nat) (ap:Option Addr) (cp:Nat) (lcP:List Bw):Prop where
 fr:a=Qy fun i=>a.tmps.getD i undef
 t0:a.tmps.getD 0 undef = .pointer (some ⟨x,0,none⟩)
 t4:a.tmps.getD 4 undef = .pointer (some ⟨P,0,none⟩)
 t6:a.tmps.getD 6 undef = .pointer (some ⟨Z,0,none⟩)
 t8:a.tmps.getD 8 undef = .pointer (some ⟨M,0,none⟩)
 t9:a.tmps.getD 9 undef = .pointer (some ⟨tt,0,none⟩)
 t11:a.tmps.getD 11 undef=v11
 g:AA w0 W
 pb:W.heap[P]? = some (.cells #[.int .i64 pe,.int .i64 pc.plans,.slice pc.ao pc.no pc.co,.slice pc.ag pc.ng pc.cg,.slice pc.ae pc.ne pc.ce,.slice pc.ax pc.nx pc.cx,.slice pc.ap pc.np pc.cp] 42)
 zb:W.heap[Z]? = some (.cells #[.int .i64 0,.int .i64 0,.slice none 0 0,.slice none 0 0,.slice none 0 0,.slice none 0 0,.slice none 0 0] 42)
 mb:W.heap[M]? = some (.cells #[.int .i64 ep,.int .i64 pp,.slice ao os.length co,.slice none 0 0,.slice none 0 0,.slice ax xs.length cx,.slice ap plan.length cp] 42)
 pz:P≠Z
 pm:P≠M
 zm:Z≠M
 z0:w0.heap.size≤Z
 m0:w0.heap.size≤M
 xc:w0.cell? ⟨x,0,none⟩=some gv
 xl:x<w0.heap.size
 os:OwnAt w0.heap.size 3 1 Cx W (.slice ao os.length co) os
 xs:OwnAt w0.heap.size 92 5 Dp W (.slice ax xs.length cx) xs
 po:FU w0.heap.size W (.slice ap plan.length cp) lcP
 pi:StepsIn w0.heap.size W lcP plan
 tab:Au W tt bt nt m2
 nd:AV W v11 l9
def YW(W W':World): Prop:=∀(b:Nat) (cs:Array Value) (t:TypeId),W.heap[b]? = some (.cells cs t)→t≠42→W'.heap[b]? = some (.cells cs t)
theorem OwnAt.butM{α:Type}{base:Nat}{e:TypeId}{k:Nat}{enc:α→List Value}{w w':World}{v:Value}{l:List α}(h:OwnAt base e k enc w v l)(hb:YW w w')(he:e≠42): OwnAt base e k enc w' v l :=
 OwnAt.same h fun b hv=>by
  obtain⟨-,cs,hc⟩:=OwnAt.block h hv;rw[hb b cs _ hc he,hc]
theorem Ab.butM{base:Nat}{w w':World}{c:BM}{n:Gr.Nd}(h:Ab base w c n)(hb:YW w w'): Ab base w' c n:=⟨OwnAt.butM h.1 hb (by decide),OwnAt.butM h.2 hb (by decide)⟩
theorem Br.butM{base:Nat}{g:List Gr.Nd}{v:Value}{w w':World}(h:Br base g v w)(hb:YW w w'): Br base g v w':=by
 obtain⟨a,c,lc,h1,h2,h3⟩:=h;refine⟨a,c,lc,h1,OwnAt.butM h2 hb (by decide),BL.mono (fun c n q=>?_) h3⟩;have o:=q.2.butM hb;exact⟨o.is q.1,o⟩
theorem StepsIn.butM{base:Nat}{w w':World}{lc:List Bw}{l:List Gr.Stp}(h:StepsIn base w lc l)(hb:YW w w'): StepsIn base w' lc l:=h.map fun _ _ o=>o.butM hb
theorem Px(w0 W:World)(x P Z M tt bt nt:Nat)(a0:Act)(gv v11:Value)(ep pp pe:Int)(pc:Dy)(pm:Gr.Mf)(g:List Gr.Nd)(os:List Int)(xs:List Gr.Ln)(plan:List Gr.Stp)(m2:List Tab.En)(l9:List Gr.Nd)(ao:Option Addr)(co:Nat)(ax:Option Addr)(cx:Nat)(ap:Option Addr)(cp:Nat)(lcP:List Bw)
  (h:A3A w0 W x P Z M tt bt nt a0 gv v11 ep pp pe pc os xs plan m2 l9 ao co ax cx ap cp lcP) (hpe:pm.epoch=pe) (hr9:Gr.RightR l9) (hs9:Small l9) (hps:∀s∈plan,s.nd.frm.length≤100∧s.nd.prog.length≤1000) (hml:m2.length≤100000)
  (hsa:∀W2,AA w0 W2→Calls Tryz.prog 42 #[.slice pc.ag pc.ng pc.cg,gv] W2 (Ac (.bool (IQ pm.graph g)) W2)) :
  Code.wp Tryz.prog (A3b 20) (bodyPost Tryz.prog Tryz.f11 (XG w0 ep pp pm g os xs m2 l9 plan)) a0 W:=by
 obtain⟨hfr,t0,t4,t6,t8,t9,t11,hg,hpb,hzb,hmb,hpz,hpm,hzm,hz0,hm0,hxc,hxl,hos,hxs,hpo,hpi,htab,hnd⟩:=h;obtain⟨u,hu⟩:∃u:Nat→Value,u=fun i=>a0.tmps.getD i undef:=⟨_,rfl⟩
 rw[←hu] at hfr;have u0:u 0=_:=(congrFun hu 0).trans t0;have u4:u 4=_:=(congrFun hu 4).trans t4;have u6:u 6=_:=(congrFun hu 6).trans t6;have u8:u 8=_:=(congrFun hu 8).trans t8;have u9:u 9=_:=(congrFun hu 9).trans t9;have u11:u 11=_:=(congrFun hu 11).trans t11;have HNO:=hY fun W2 (q:AA W W2)=>Lj v11 l9 W2 (hnd.grew q) hs9 hr9
 have HAL:=hY fun W2 (q:AA W W2)=>Gi W2 tt bt nt m2 (htab.grew q)
 have HSA:=hY hsa;obtain⟨a11,c11,rfl,-,-⟩:=hnd.openC;clear hu t0 t4 t6 t8 t9 t11 hnd htab hsa;subst hfr
 conv=>arg 2;whnf
 unfold Qy;rw[u0,u4,u6,u8,u9,u11];clear u0 u4 u6 u8 u9 u11;have HG:=hY hg;have HPB:=hY hpb;have HZB:=hY hzb;have HMB:=hY hmb;have HOS:=hY hos;have HXS:=hY hxs;have HPO:=hY hpo;have HPI:=hY hpi;have HXC:=hY hxc;have HPE:=hY hpe;have HR9:=hY hr9;have HS9:=hY hs9;have HPS:=hY hps;have HML:=hY hml;have HNE:Hid ((P≠Z∧P≠M∧Z≠M)∧w0.heap.size≤Z∧w0.heap.size≤M∧x<w0.heap.size):=hY ⟨⟨hpz,hpm,hzm⟩,hz0,hm0,hxl⟩;have m0:=cell_of (o:=0) hmb;have m1:=cell_of (o:=1) hmb;have m2':=cell_of (o:=2) hmb;have m3:=cell_of (o:=3) hmb;have m4:=cell_of (o:=4) hmb;have m5:=cell_of (o:=5) hmb;have m6:=cell_of (o:=6) hmb;simp at m0 m1 m2' m3 m4 m5 m6;have f3:=AJ (o:=3) hmb;have f4:=AJ (o:=4) hmb;have pM:=Ad.mk (AB hmb);clear hg hpb hzb hmb hos hxs hpo hpi hxc hpe hr9 hs9 hps hml hpz hpm hzm hz0 hm0 hxl
 go_upto_region 21 with (first
  | (go_at_call 27;((with_reducible refine Calls.mono (HNO.o _ ?_) ?_));(focus(exact gw));rintro e w3 ⟨v3,lc3,rfl,hv3,hi3,R3,n3,rfl⟩;obtain⟨a3,c3,hv9,-,-⟩:=(hi3.at hv3).openC;subst hv9;(have HV3:Hid (Br _ (Gr.normG l9) _ _):=hY ⟨a3,c3,lc3,rfl,hv3,hi3⟩);clear hv3 hi3)
  | (go_at_call 41;((with_reducible refine Calls.mono (HAL.o _ ?_) ?_));(focus(exact gw));rintro e w4 ⟨v4,s,rfl,hs4,hp4,hso4,R4,n4,rfl⟩;obtain⟨a4,c4,rfl⟩:=(OwnAt.rows hs4 Az).len;(have HS4:=hY hs4);(have HP4:=hY hp4);(have HSO4:=hY hso4);clear hs4 hp4 hso4))
 obtain⟨wx,hwx⟩:∃wx,wx=(((W.setCell ⟨M,3,none⟩ (.slice a3 (Gr.normG l9).length c3)).setCell ⟨M,4,none⟩ (.slice a4 s.length c4)).more R3 n3).more R4 n4:=⟨_,rfl⟩;have hg4:AA W ((W.more R3 n3).more R4 n4):=gw;have h8:Ay M ((W.more R3 n3).more R4 n4) wx:=by rw[hwx];exact((((Ay.refl M W).setr 3 _).setr 4 _).more R3 n3).more R4 n4
 have hM8:wx.heap[M]? = some (.cells #[.int .i64 ep,.int .i64 pp,.slice ao os.length co,.slice a3 (Gr.normG l9).length c3,.slice a4 s.length c4,.slice ax xs.length cx,.slice ap plan.length cp] 42):=by
  rw[hwx];refine AC (((AA.refl _).more R3 n3).more R4 n4) ?_;exact set_self (set_self HMB.o)
 have hPx:wx.heap[P]? = _:=(h8.2 P HNE.o.1.2.1).trans (AC hg4 HPB.o);have hZx:wx.heap[Z]? = _:=(h8.2 Z HNE.o.1.2.2).trans (AC hg4 HZB.o)
 have hgx:AA w0 wx:=by
  rw[hwx];exact(((HG.o.set HNE.o.2.2.1 _).set HNE.o.2.2.1 _).more R3 n3).more R4 n4
 have hB:∀W',Ay Z wx W'→YW ((W.more R3 n3).more R4 n4) W':=fun W' h6 b cs t hc ht=>by
  have e1:b≠M:=fun e=>by
   rw[e,AC hg4 HMB.o] at hc;cases hc;exact ht rfl
  have e2:b≠Z:=fun e=>by
   rw[e,AC hg4 HZB.o] at hc;cases hc;exact ht rfl
  rw[h6.2 b e2,h8.2 b e1];exact hc
 have hmf:∀W',Ay Z wx W'→Dl W' ⟨ep,pp,ao,os.length,co,a3,(Gr.normG l9).length,c3,a4,s.length,c4,ax,xs.length,cx,ap,plan.length,cp⟩ ⟨ep,pp,os,Gr.normG l9,s,xs,plan⟩:=fun W' h6=>by
  have hb:=hB W' h6;have hv:=Br.st _ _ _ _ _ HV3.o (gw:AA _ ((W.more R3 n3).more R4 n4));have hpi:=StepsIn.butM (HPI.o.grew hg4) hb;refine⟨rfl,rfl,OwnAt.rows (OwnAt.butM (HOS.o.grew hg4) hb (by decide)) Ar,(hv.butM hb).at',OwnAt.rows (OwnAt.butM (HS4.o.grew gw) hb (by decide)) Az,OwnAt.rows (OwnAt.butM (HXS.o.grew hg4) hb (by decide)) Bt,hpi.at (OwnAt.butM (HPO.o.grew hg4) hb (by decide))⟩
 have hsl:s.length≤100000:=by
  have h1:=HP4.o.length_eq;have h2:=HML.o;omega
 have HMF:=hY hmf;rw[←hwx];clear hwx hg4 h8 hB hmf HV3 HS4 m0 m1 m2' m3 m4 m5 m6 f3 f4 pM HOS HXS HPO HPI HG HPB HZB HMB;have hsn:=G9 HR9.o HS9.o;have HRT:=hY fun W2 (q:AA wx W2)=>Ka ⟨ep,pp,ao,os.length,co,a3,(Gr.normG l9).length,c3,a4,s.length,c4,ax,xs.length,cx,ap,plan.length,cp⟩ ⟨ep,pp,os,Gr.normG l9,s,xs,plan⟩ W2 ((HMF.o wx (Ay.refl _ _)).grew q) hsn HPS.o hsl
 have HSA2:=hY fun W2 (q:AA wx W2)=>HSA.o W2 (hgx.trans q)
 have HGX:=hY hgx;have m0:=cell_of (o:=0) hM8;have m1:=cell_of (o:=1) hM8;have m2':=cell_of (o:=2) hM8;have m3:=cell_of (o:=3) hM8;have m4:=cell_of (o:=4) hM8;have m5:=cell_of (o:=5) hM8;have m6:=cell_of (o:=6) hM8;have q0:=cell_of (o:=0) hPx;have q3:=cell_of (o:=3) hPx;have z0:=cell_of (o:=0) hZx;have z1:=cell_of (o:=1) hZx;have z2:=cell_of (o:=2) hZx;have z3:=cell_of (o:=3) hZx;have z4:=cell_of (o:=4) hZx;have z5:=cell_of (o:=5) hZx;have z6:=cell_of (o:=6) hZx;simp at m0 m1 m2' m3 m4 m5 m6 q0 q3 z0 z1 z2 z3 z4 z5 z6;have f0:=AJ (o:=0) hZx;have f1:=AJ (o:=1) hZx;have f2:=AJ (o:=2) hZx;have f3:=AJ (o:=3) hZx;have f4:=AJ (o:=4) hZx;have f5:=AJ (o:=5) hZx;have f6:=AJ (o:=6) hZx;have pm8:=Ad.mk (AB hM8);have pmP:=Ad.mk (AB hPx);have pmZ:=Ad.mk (AB hZx);have x02:=BD hgx HXC.o;have px2:=Ad.ofCell x02;have nMZ:¬(M=Z):=fun e=>HNE.o.1.2.2 e.symm
 have nZM:¬(Z=M):=HNE.o.1.2.2;clear hM8 hPx hZx hgx hsl hsn;cases hrb:BS ⟨ep,pp,os,Gr.normG l9,s,xs,plan⟩
 ·rw[hrb] at HRT;have HRB:=hY hrb;clear hrb;refine AY 20 Tryz.mixed (by kernel_rfl) (by kernel_rfl) ?_
  iterate 1
   apply Ch.val
   focus
    rintro w1 u ⟨R1,n1,rfl⟩ hF;simp[AR,AU.more,Oper.deps,Region.binds,List.filter_cons,World.more_drew] at hF;simp[AL,Oper.deps,Region.binds,List.filter_cons,Region.dstOf,AU.at,Act.put,World.more_drew];go_wp2;exact⟨gw,rfl,_,_,rfl,rfl,rfl⟩
  apply Ch.val
  focus
   rintro w1 u ⟨R1,n1,rfl⟩ hF;simp[AR,AU.more,Oper.deps,Region.binds,List.filter_cons,World.more_drew] at hF;simp[AL,Oper.deps,Region.binds,List.filter_cons,Region.dstOf,AU.at,Act.put,World.more_drew]
   go_wp2_with (first
    | (go_at_call 9;go_loud (refine(HRT.o _ gw).mono ?_);rintro e w5 ⟨rfl,R5,n5,rfl⟩)
    )
   exact⟨gw,rfl,_,_,rfl,rfl,rfl⟩
  iterate 18
   apply Ch.val
   focus
    rintro w1 u ⟨R1,n1,rfl⟩ hF;simp[AR,AU.more,Oper.deps,Region.binds,List.filter_cons,World.more_drew] at hF;simp[AL,Oper.deps,Region.binds,List.filter_cons,Region.dstOf,AU.at,Act.put,World.more_drew];go_wp2;exact⟨gw,rfl,_,_,rfl,rfl,rfl⟩
  rintro u w1 ⟨R1,n1,rfl⟩ hF;clear hF;simp[AL,Region.dstOf,AU.at,Act.put,List.range_succ,World.more_drew]
  go_wp2_with fail
  refine bodyPost_ret (v:=Zk) (by simp[results,Tryz.results11,go_sem,Zk,pmZ,z0,z1,z2,z3,z4,z5,z6]) rfl ?_;refine⟨s,HP4.o,HSO4.o,fun q=>absurd q.1 (by rw[HRB.o];decide),fun _=>⟨rfl,?_⟩⟩
  repeat (first|with_reducible exact HGX.o|with_reducible apply AA.more|with_reducible apply AA.alloc|refine AA.set ?_ HNE.o.2.1 _)
 rw[hrb] at HRT;have HRB:=hY hrb;clear hrb;cases hd:decide (ep≤pe)
 case true =>
  have HD:=hY hd;clear hd;refine AY 20 Tryz.mixed (by kernel_rfl) (by kernel_rfl) ?_
  iterate 1
   apply Ch.val
   focus
    rintro w1 u ⟨R1,n1,rfl⟩ hF;simp[AR,AU.more,Oper.deps,Region.binds,List.filter_cons,World.more_drew] at hF;simp[AL,Oper.deps,Region.binds,List.filter_cons,Region.dstOf,AU.at,Act.put,World.more_drew];go_wp2;exact⟨gw,rfl,_,_,rfl,rfl,rfl⟩
  apply Ch.val
  focus
   rintro w1 u ⟨R1,n1,rfl⟩ hF;simp[AR,AU.more,Oper.deps,Region.binds,List.filter_cons,World.more_drew] at hF;simp[AL,Oper.deps,Region.binds,List.filter_cons,Region.dstOf,AU.at,Act.put,World.more_drew]
   go_wp2_with (first
    | (go_at_call 9;go_loud (refine(HRT.o _ gw).mono ?_);rintro e w5 ⟨rfl,R5,n5,rfl⟩)
    )
   exact⟨gw,rfl,_,_,rfl,rfl,rfl⟩
  iterate 6
   apply Ch.val
   focus
    rintro w1 u ⟨R1,n1,rfl⟩ hF;simp[AR,AU.more,Oper.deps,Region.binds,List.filter_cons,World.more_drew] at hF;simp[AL,Oper.deps,Region.binds,List.filter_cons,Region.dstOf,AU.at,Act.put,World.more_drew];go_wp2;exact⟨gw,rfl,_,_,rfl,rfl,rfl⟩
  apply Ch.val
  focus
   rintro w1 u ⟨R1,n1,rfl⟩ hF;simp[AR,AU.more,Oper.deps,Region.binds,List.filter_cons,World.more_drew] at hF;simp[AL,Oper.deps,Region.binds,List.filter_cons,Region.dstOf,AU.at,Act.put,World.more_drew];have hd:=HD.o;go_wp2;exact⟨gw,rfl,_,_,rfl,rfl,rfl⟩
  iterate 11
   apply Ch.val
   focus
    rintro w1 u ⟨R1,n1,rfl⟩ hF;simp[AR,AU.more,Oper.deps,Region.binds,List.filter_cons,World.more_drew] at hF;simp[AL,Oper.deps,Region.binds,List.filter_cons,Region.dstOf,AU.at,Act.put,World.more_drew];go_wp2;exact⟨gw,rfl,_,_,rfl,rfl,rfl⟩
  rintro u w1 ⟨R1,n1,rfl⟩ hF;clear hF;simp[AL,Region.dstOf,AU.at,Act.put,List.range_succ,World.more_drew]
  go_wp2_with fail
  refine bodyPost_ret (v:=Zk) (by simp[results,Tryz.results11,go_sem,Zk,pmZ,z0,z1,z2,z3,z4,z5,z6]) rfl ?_;refine⟨s,HP4.o,HSO4.o,fun q=>?_,fun _=>⟨rfl,?_⟩⟩
  ·have h1:pm.epoch<ep:=q.2.1;rw[HPE.o] at h1;exact absurd h1 (Int.not_lt.2 (of_decide_eq_true HD.o))
  ·repeat (first|with_reducible exact HGX.o|with_reducible apply AA.more|with_reducible apply AA.alloc|refine AA.set ?_ HNE.o.2.1 _)
 have HD:=hY hd;clear hd;cases heq:IQ pm.graph g
 ·rw[heq] at HSA2;have HQ:=hY heq;clear heq;refine AY 20 Tryz.mixed (by kernel_rfl) (by kernel_rfl) ?_
  iterate 1
   apply Ch.val
   focus
    rintro w1 u ⟨R1,n1,rfl⟩ hF;simp[AR,AU.more,Oper.deps,Region.binds,List.filter_cons,World.more_drew] at hF;simp[AL,Oper.deps,Region.binds,List.filter_cons,Region.dstOf,AU.at,Act.put,World.more_drew];go_wp2;exact⟨gw,rfl,_,_,rfl,rfl,rfl⟩
  apply Ch.val
  focus
   rintro w1 u ⟨R1,n1,rfl⟩ hF;simp[AR,AU.more,Oper.deps,Region.binds,List.filter_cons,World.more_drew] at hF;simp[AL,Oper.deps,Region.binds,List.filter_cons,Region.dstOf,AU.at,Act.put,World.more_drew]
   go_wp2_with (first
    | (go_at_call 9;go_loud (refine(HRT.o _ gw).mono ?_);rintro e w5 ⟨rfl,R5,n5,rfl⟩)
    )
   exact⟨gw,rfl,_,_,rfl,rfl,rfl⟩
  iterate 6
   apply Ch.val
   focus
    rintro w1 u ⟨R1,n1,rfl⟩ hF;simp[AR,AU.more,Oper.deps,Region.binds,List.filter_cons,World.more_drew] at hF;simp[AL,Oper.deps,Region.binds,List.filter_cons,Region.dstOf,AU.at,Act.put,World.more_drew];go_wp2;exact⟨gw,rfl,_,_,rfl,rfl,rfl⟩
  apply Ch.val
  focus
   rintro w1 u ⟨R1,n1,rfl⟩ hF;simp[AR,AU.more,Oper.deps,Region.binds,List.filter_cons,World.more_drew] at hF;simp[AL,Oper.deps,Region.binds,List.filter_cons,Region.dstOf,AU.at,Act.put,World.more_drew];have hd:=HD.o;go_wp2;exact⟨gw,rfl,_,_,rfl,rfl,rfl⟩
  iterate 8
   apply Ch.val
   focus
    rintro w1 u ⟨R1,n1,rfl⟩ hF;simp[AR,AU.more,Oper.deps,Region.binds,List.filter_cons,World.more_drew] at hF;simp[AL,Oper.deps,Region.binds,List.filter_cons,Region.dstOf,AU.at,Act.put,World.more_drew];go_wp2;exact⟨gw,rfl,_,_,rfl,rfl,rfl⟩
  apply Ch.val
  focus
   rintro w1 u ⟨R1,n1,rfl⟩ hF;simp[AR,AU.more,Oper.deps,Region.binds,List.filter_cons,World.more_drew] at hF;simp[AL,Oper.deps,Region.binds,List.filter_cons,Region.dstOf,AU.at,Act.put,World.more_drew]
   go_wp2_with (first
    | (go_at_call 42;go_loud (refine(HSA2.o _ gw).mono ?_);rintro e w5 ⟨rfl,R5,n5,rfl⟩)
    )
   exact⟨gw,rfl,_,_,rfl,rfl,rfl⟩
  iterate 2
   apply Ch.val
   focus
    rintro w1 u ⟨R1,n1,rfl⟩ hF;simp[AR,AU.more,Oper.deps,Region.binds,List.filter_cons,World.more_drew] at hF;simp[AL,Oper.deps,Region.binds,List.filter_cons,Region.dstOf,AU.at,Act.put,World.more_drew];go_wp2;exact⟨gw,rfl,_,_,rfl,rfl,rfl⟩
  rintro u w1 ⟨R1,n1,rfl⟩ hF;clear hF;simp[AL,Region.dstOf,AU.at,Act.put,List.range_succ,World.more_drew]
  go_wp2_with fail
  refine bodyPost_ret (v:=Zk) (by simp[results,Tryz.results11,go_sem,Zk,pmZ,z0,z1,z2,z3,z4,z5,z6]) rfl ?_;refine⟨s,HP4.o,HSO4.o,fun q=>?_,fun _=>⟨rfl,?_⟩⟩
  ·exact absurd (QR.2 q.2.2) (by rw[HQ.o];decide)
  ·repeat (first|with_reducible exact HGX.o|with_reducible apply AA.more|with_reducible apply AA.alloc|refine AA.set ?_ HNE.o.2.1 _)
 rw[heq] at HSA2;have HQ:=hY heq;clear heq;refine AY 20 Tryz.mixed (by kernel_rfl) (by kernel_rfl) ?_
 iterate 1
  apply Ch.val
  focus
   rintro w1 u ⟨R1,n1,rfl⟩ hF;simp[AR,AU.more,Oper.deps,Region.binds,List.filter_cons,World.more_drew] at hF;simp[AL,Oper.deps,Region.binds,List.filter_cons,Region.dstOf,AU.at,Act.put,World.more_drew];go_wp2;exact⟨gw,rfl,_,_,rfl,rfl,rfl⟩
 apply Ch.val
 focus
  rintro w1 u ⟨R1,n1,rfl⟩ hF;simp[AR,AU.more,Oper.deps,Region.binds,List.filter_cons,World.more_drew] at hF;simp[AL,Oper.deps,Region.binds,List.filter_cons,Region.dstOf,AU.at,Act.put,World.more_drew]
  go_wp2_with (first
   | (go_at_call 9;go_loud (refine(HRT.o _ gw).mono ?_);rintro e w5 ⟨rfl,R5,n5,rfl⟩)
   )
  exact⟨gw,rfl,_,_,rfl,rfl,rfl⟩
 iterate 6
  apply Ch.val
  focus
   rintro w1 u ⟨R1,n1,rfl⟩ hF;simp[AR,AU.more,Oper.deps,Region.binds,List.filter_cons,World.more_drew] at hF;simp[AL,Oper.deps,Region.binds,List.filter_cons,Region.dstOf,AU.at,Act.put,World.more_drew];go_wp2;exact⟨gw,rfl,_,_,rfl,rfl,rfl⟩
 apply Ch.val
 focus
  rintro w1 u ⟨R1,n1,rfl⟩ hF;simp[AR,AU.more,Oper.deps,Region.binds,List.filter_cons,World.more_drew] at hF;simp[AL,Oper.deps,Region.binds,List.filter_cons,Region.dstOf,AU.at,Act.put,World.more_drew];have hd:=HD.o;go_wp2;exact⟨gw,rfl,_,_,rfl,rfl,rfl⟩
 iterate 8
  apply Ch.val
  focus
   rintro w1 u ⟨R1,n1,rfl⟩ hF;simp[AR,AU.more,Oper.deps,Region.binds,List.filter_cons,World.more_drew] at hF;simp[AL,Oper.deps,Region.binds,List.filter_cons,Region.dstOf,AU.at,Act.put,World.more_drew];go_wp2;exact⟨gw,rfl,_,_,rfl,rfl,rfl⟩
 apply Ch.val
 focus
  rintro w1 u ⟨R1,n1,rfl⟩ hF;simp[AR,AU.more,Oper.deps,Region.binds,List.filter_cons,World.more_drew] at hF;simp[AL,Oper.deps,Region.binds,List.filter_cons,Region.dstOf,AU.at,Act.put,World.more_drew]
  go_wp2_with (first
   | (go_at_call 42;go_loud (refine(HSA2.o _ gw).mono ?_);rintro e w5 ⟨rfl,R5,n5,rfl⟩)
   )
  exact⟨gw,rfl,_,_,rfl,rfl,rfl⟩
 iterate 2
  apply Ch.val
  focus
   rintro w1 u ⟨R1,n1,rfl⟩ hF;simp[AR,AU.more,Oper.deps,Region.binds,List.filter_cons,World.more_drew] at hF;simp[AL,Oper.deps,Region.binds,List.filter_cons,Region.dstOf,AU.at,Act.put,World.more_drew];go_wp2;exact⟨gw,rfl,_,_,rfl,rfl,rfl⟩
 rintro u w1 ⟨R1,n1,rfl⟩ hF;clear hF;simp[AL,Region.dstOf,AU.at,Act.put,List.range_succ,World.more_drew]
 go_wp2_with fail
 refine bodyPost_ret (v:=.tuple #[.agg #[.int .i64 ((⟨ep,pp,ao,os.length,co,a3,(Gr.normG l9).length,c3,a4,s.length,c4,ax,xs.length,cx,ap,plan.length,cp⟩:Dy)).epoch,.int .i64 ((⟨ep,pp,ao,os.length,co,a3,(Gr.normG l9).length,c3,a4,s.length,c4,ax,xs.length,cx,ap,plan.length,cp⟩:Dy)).plans,.slice ((⟨ep,pp,ao,os.length,co,a3,(Gr.normG l9).length,c3,a4,s.length,c4,ax,xs.length,cx,ap,plan.length,cp⟩:Dy)).ao ((⟨ep,pp,ao,os.length,co,a3,(Gr.normG l9).length,c3,a4,s.length,c4,ax,xs.length,cx,ap,plan.length,cp⟩:Dy)).no ((⟨ep,pp,ao,os.length,co,a3,(Gr.normG l9).length,c3,a4,s.length,c4,ax,xs.length,cx,ap,plan.length,cp⟩:Dy)).co,.slice ((⟨ep,pp,ao,os.length,co,a3,(Gr.normG l9).length,c3,a4,s.length,c4,ax,xs.length,cx,ap,plan.length,cp⟩:Dy)).ag ((⟨ep,pp,ao,os.length,co,a3,(Gr.normG l9).length,c3,a4,s.length,c4,ax,xs.length,cx,ap,plan.length,cp⟩:Dy)).ng ((⟨ep,pp,ao,os.length,co,a3,(Gr.normG l9).length,c3,a4,s.length,c4,ax,xs.length,cx,ap,plan.length,cp⟩:Dy)).cg,.slice ((⟨ep,pp,ao,os.length,co,a3,(Gr.normG l9).length,c3,a4,s.length,c4,ax,xs.length,cx,ap,plan.length,cp⟩:Dy)).ae ((⟨ep,pp,ao,os.length,co,a3,(Gr.normG l9).length,c3,a4,s.length,c4,ax,xs.length,cx,ap,plan.length,cp⟩:Dy)).ne ((⟨ep,pp,ao,os.length,co,a3,(Gr.normG l9).length,c3,a4,s.length,c4,ax,xs.length,cx,ap,plan.length,cp⟩:Dy)).ce,.slice ((⟨ep,pp,ao,os.length,co,a3,(Gr.normG l9).length,c3,a4,s.length,c4,ax,xs.length,cx,ap,plan.length,cp⟩:Dy)).ax ((⟨ep,pp,ao,os.length,co,a3,(Gr.normG l9).length,c3,a4,s.length,c4,ax,xs.length,cx,ap,plan.length,cp⟩:Dy)).nx ((⟨ep,pp,ao,os.length,co,a3,(Gr.normG l9).length,c3,a4,s.length,c4,ax,xs.length,cx,ap,plan.length,cp⟩:Dy)).cx,.slice ((⟨ep,pp,ao,os.length,co,a3,(Gr.normG l9).length,c3,a4,s.length,c4,ax,xs.length,cx,ap,plan.length,cp⟩:Dy)).ap ((⟨ep,pp,ao,os.length,co,a3,(Gr.normG l9).length,c3,a4,s.length,c4,ax,xs.length,cx,ap,plan.length,cp⟩:Dy)).np ((⟨ep,pp,ao,os.length,co,a3,(Gr.normG l9).length,c3,a4,s.length,c4,ax,xs.length,cx,ap,plan.length,cp⟩:Dy)).cp],.int .i64 0]) (by simp[results,Tryz.results11,go_sem,pmZ,z0,z1,z2,z3,z4,z5,z6]) rfl ?_;refine⟨s,HP4.o,HSO4.o,fun q=>⟨⟨ep,pp,ao,os.length,co,a3,(Gr.normG l9).length,c3,a4,s.length,c4,ax,xs.length,cx,ap,plan.length,cp⟩,rfl,?_,?_⟩,fun q=>absurd ⟨HRB.o,(show pm.epoch<ep by rw[HPE.o];exact Int.not_le.1 (of_decide_eq_false HD.o)),QR.1 HQ.o⟩ q⟩
 ·refine(fun W' (hs:Ay Z wx W')=>Dl.grew (w':=W'.more R1 n1) (HMF.o W' hs) ⟨R1,n1,rfl⟩) _ ?_
  repeat (first|with_reducible exact Ay.refl _ _|with_reducible apply Ay.setr)
 ·repeat (first|with_reducible exact HGX.o|with_reducible apply AA.more|with_reducible apply AA.alloc|refine AA.set ?_ HNE.o.2.1 _)
structure Jr (w0 W:World) (P Z M tt bt nt:Nat) (v11:Value) (ep pp pe:Int) (pc:Dy) (os:List Int) (xs:List Gr.Ln) (plan:List Gr.Stp) (m2:List Tab.En) (l9:List Gr.Nd) (ao:Option Addr) (co:Nat) (ax:Option Addr) (cx:Nat) (vp:Value) (lcP:List Bw):Prop where
 g:AA w0 W
 pb:W.heap[P]? = some (.cells #[.int .i64 pe,.int .i64 pc.plans,.slice pc.ao pc.no pc.co,.slice pc.ag pc.ng pc.cg,.slice pc.ae pc.ne pc.ce,.slice pc.ax pc.nx pc.cx,.slice pc.ap pc.np pc.cp] 42)
 zb:W.heap[Z]? = some (.cells #[.int .i64 0,.int .i64 0,.slice none 0 0,.slice none 0 0,.slice none 0 0,.slice none 0 0,.slice none 0 0] 42)
 mb:W.heap[M]? = some (.cells #[.int .i64 ep,.int .i64 pp,.slice ao os.length co,.slice none 0 0,.slice none 0 0,.slice ax xs.length cx,vp] 42)
 pz:P≠Z
 pm:P≠M
 zm:Z≠M
 z0:w0.heap.size≤Z
 m0:w0.heap.size≤M
 os:OwnAt w0.heap.size 3 1 Cx W (.slice ao os.length co) os
 xs:OwnAt w0.heap.size 92 5 Dp W (.slice ax xs.length cx) xs
 po:FU w0.heap.size W vp lcP
 pi:StepsIn w0.heap.size W lcP plan
 tab:Au W tt bt nt m2
 nd:Br w0.heap.size l9 v11 W
theorem Jr.grew{w0 W W':World}{P Z M tt bt nt:Nat}{v11:Value}{ep pp pe:Int}{pc:Dy}{os:List Int}{xs:List Gr.Ln}{plan:List Gr.Stp}{m2:List Tab.En}{l9:List Gr.Nd}{ao:Option Addr}{co:Nat}{ax:Option Addr}{cx:Nat}{vp:Value}{lcP:List Bw}(h:Jr w0 W P Z M tt bt nt v11 ep pp pe pc os xs plan m2 l9 ao co ax cx vp lcP)(q:AA W W'): Jr w0 W' P Z M tt bt nt v11 ep pp pe pc os xs plan m2 l9 ao co ax cx vp lcP :=
 ⟨h.g.trans q,AC q h.pb,AC q h.zb,AC q h.mb,h.pz,h.pm,h.zm,h.z0,h.m0,h.os.grew q,h.xs.grew q,OwnAt.grew h.po q,h.pi.grew q,h.tab.grew q,Br.st _ _ _ _ _ h.nd q⟩
def TF(W W':World): Prop:=∀(b:Nat) (cs:Array Value) (t:TypeId),W.heap[b]? = some (.cells cs t)→t≠66→t≠42→W'.heap[b]? = some (.cells cs t)
theorem OwnAt.butSM{α:Type}{base:Nat}{e:TypeId}{k:Nat}{enc:α→List Value}{w w':World}{v:Value}{l:List α}(h:OwnAt base e k enc w v l)(hb:TF w w')(he:e≠66)(he2:e≠42): OwnAt base e k enc w' v l :=
 OwnAt.same h fun b hv=>by
  obtain⟨-,cs,hc⟩:=OwnAt.block h hv;rw[hb b cs _ hc he he2,hc]
theorem Ab.butSM{base:Nat}{w w':World}{c:BM}{n:Gr.Nd}(h:Ab base w c n)(hb:TF w w'): Ab base w' c n:=⟨OwnAt.butSM h.1 hb (by decide) (by decide),OwnAt.butSM h.2 hb (by decide) (by decide)⟩
theorem Br.butSM{base:Nat}{g:List Gr.Nd}{v:Value}{w w':World}(h:Br base g v w)(hb:TF w w'): Br base g v w':=by
 obtain⟨a,c,lc,h1,h2,h3⟩:=h;refine⟨a,c,lc,h1,OwnAt.butSM h2 hb (by decide) (by decide),BL.mono (fun c n q=>?_) h3⟩;have o:=q.2.butSM hb;exact⟨o.is q.1,o⟩
theorem StepsIn.butSM{base:Nat}{w w':World}{lc:List Bw}{l:List Gr.Stp}(h:StepsIn base w lc l)(hb:TF w w'): StepsIn base w' lc l:=h.map fun _ _ o=>o.butSM hb
theorem Jr.addP{w0 W W':World}{P Z M tt bt nt:Nat}{v11:Value}{ep pp pe:Int}{pc:Dy}{os:List Int}{xs:List Gr.Ln}{plan:List Gr.Stp}{m2:List Tab.En}{l9:List Gr.Nd}{ao:Option Addr}{co:Nat}{ax:Option Addr}{cx:Nat}{vp v':Value}{lcP:List Bw}{d:Bw}{z:Gr.Stp}(h:Jr w0 W P Z M tt bt nt v11 ep pp pe pc os xs plan m2 l9 ao co ax cx vp lcP)(hA:Ap w0 66 15 CS W vp (lcP++[d]) v' W')(hd:Ai W d z)(ho:Ab w0.heap.size W d.c z.nd): Jr w0 (W'.setCell ⟨M,6,none⟩ v') P Z M tt bt nt v11 ep pp pe pc os xs (plan++[z]) m2 l9 ao co ax cx v' (lcP++[d]):=by
 obtain⟨a1,a2,a3,a4,a5⟩:=hA;have hM:W'.heap[M]? = _:=(a4 M (AB h.mb) (OwnAt.other h.po h.mb (by decide))).trans h.mb
 have hB:TF W (W'.setCell ⟨M,6,none⟩ v'):=fun b cs t hc h1 h2=>by
  have e1:M≠b:=fun e=>by
   subst e;rw[h.mb] at hc;cases hc;exact h2 rfl
  rw[AQ e1,a4 b (AB hc) (OwnAt.other h.po hc h1)];exact hc
 have hk:StepsIn w0.heap.size (W'.setCell ⟨M,6,none⟩ v') (lcP++[d]) (plan++[z]):=by
  have o5:=ho.butSM hB;exact BL.snoc (h.pi.butSM hB) ⟨hd.of o5,o5⟩
 have hbt:(W'.setCell ⟨M,6,none⟩ v').heap[bt]? = W.heap[bt]? :=by
  have e1:M≠bt:=fun e=>TabAt.nocells h.tab.2 _ _ _ (e▸h.mb)
  rw[AQ e1,a4 bt h.tab.2.lt fun e=>?_];obtain⟨-,cs,hc⟩:=OwnAt.block h.po e;exact TabAt.nocells h.tab.2 _ _ _ hc
 refine⟨a1.set h.m0 _,?_,?_,by rw[set_self hM];rfl,h.pz,h.pm,h.zm,h.z0,h.m0,OwnAt.butSM h.os hB (by decide) (by decide),OwnAt.butSM h.xs hB (by decide) (by decide),OwnAt.same a2 fun b hb=>?_,hk,⟨hB tt _ _ h.tab.1 (by decide) (by decide),h.tab.2.same hbt⟩,h.nd.butSM hB⟩
 ·rw[AQ (fun e=>h.pm e.symm),a4 P (AB h.pb) (OwnAt.other h.po h.pb (by decide))];exact h.pb
 ·rw[AQ (fun e=>h.zm e.symm),a4 Z (AB h.zb) (OwnAt.other h.po h.zb (by decide))];exact h.zb
 ·exact AQ fun e=>OwnAt.other a2 hM (by decide) (e▸hb)
theorem Jr.pre{w0 W:World}{x P Z M tt bt nt:Nat}{a:Act}{gv v11:Value}{ep pp pe:Int}{pc:Dy}{os:List Int}{xs:List Gr.Ln}{plan:List Gr.Stp}{m2:List Tab.En}{l9:List Gr.Nd}{ao:Option Addr}{co:Nat}{ax:Option Addr}{cx:Nat}{ap:Option Addr}{cp:Nat}{lcP:List Bw}(h:Jr w0 W P Z M tt bt nt v11 ep pp pe pc os xs plan m2 l9 ao co ax cx (.slice ap plan.length cp) lcP)(fr:a=Qy fun i=>a.tmps.getD i undef)
  (t0:a.tmps.getD 0 undef = .pointer (some ⟨x,0,none⟩)) (t4:a.tmps.getD 4 undef = .pointer (some ⟨P,0,none⟩)) (t6:a.tmps.getD 6 undef = .pointer (some ⟨Z,0,none⟩)) (t8:a.tmps.getD 8 undef = .pointer (some ⟨M,0,none⟩)) (t9:a.tmps.getD 9 undef = .pointer (some ⟨tt,0,none⟩)) (t11:a.tmps.getD 11 undef=v11)
  (xc:w0.cell? ⟨x,0,none⟩=some gv) (xl:x<w0.heap.size):A3A w0 W x P Z M tt bt nt a gv v11 ep pp pe pc os xs plan m2 l9 ao co ax cx ap cp lcP :=
 ⟨fr,t0,t4,t6,t8,t9,t11,h.g,h.pb,h.zb,h.mb,h.pz,h.pm,h.zm,h.z0,h.m0,xc,xl,h.os,h.xs,h.po,h.pi,h.tab,h.nd.at'⟩
theorem Jr.start{w w5:World}{P Z M tt bt nt:Nat}{v11:Value}{ep pp q pe:Int}{pc:Dy}{os:List Int}{xs:List Gr.Ln}{m2:List Tab.En}{l9:List Gr.Nd}{ao:Option Addr}{co:Nat}{ax:Option Addr}{cx:Nat}(hg:AA w w5)
  (hp:w5.heap[P]? = some (.cells #[.int .i64 pe,.int .i64 pc.plans,.slice pc.ao pc.no pc.co,.slice pc.ag pc.ng pc.cg,.slice pc.ae pc.ne pc.ce,.slice pc.ax pc.nx pc.cx,.slice pc.ap pc.np pc.cp] 42))
  (hz:w5.heap[Z]? = some (.cells #[.int .i64 0,.int .i64 0,.slice none 0 0,.slice none 0 0,.slice none 0 0,.slice none 0 0,.slice none 0 0] 42)) (hm:w5.heap[M]? = some (.cells #[.int .i64 ep,.int .i64 pp,.slice ao os.length co,.slice none 0 0,.slice none 0 0,.slice ax xs.length cx,.slice none 0 0] 42)) (pz:P≠Z) (pm:P≠M) (zm:Z≠M) (z0:w.heap.size≤Z) (m0:w.heap.size≤M)
  (ho:OwnAt w.heap.size 3 1 Cx w5 (.slice ao os.length co) os) (hx:OwnAt w.heap.size 92 5 Dp w5 (.slice ax xs.length cx) xs) (hT:Au w5 tt bt nt m2) (hnd:Br w.heap.size l9 v11 w5) :
  Jr w (w5.setCell ⟨M,1,none⟩ (.int .i64 q)) P Z M tt bt nt v11 ep q pe pc os xs [] m2 l9 ao co ax cx (.slice none 0 0) []:=by
 have hB:YW w5 (w5.setCell ⟨M,1,none⟩ (.int .i64 q)):=fun b cs t hc ht=>by
  rw[AQ (fun e=>ht (by subst e;rw[hm] at hc;cases hc;rfl))];exact hc
 refine⟨hg.set m0 _,(AQ (fun e=>pm e.symm)).trans hp,(AQ (fun e=>zm e.symm)).trans hz,by rw[set_self hm];rfl,pz,pm,zm,z0,m0,OwnAt.butM ho hB (by decide),OwnAt.butM hx hB (by decide),OwnAt.nil _,trivial,⟨hB tt _ _ hT.1 (by decide),hT.2.same (AQ fun e=>TabAt.nocells hT.2 _ _ _ (e▸hm))⟩,hnd.butM hB⟩
theorem A0a(m:List Tab.En): ∀p:List Gr.Stp,(Gc m p).length≤m.length:=by
 intro p;unfold Gc
 induction p generalizing m with
 | nil=>exact Nat.le_refl _
 |cons s p ih =>
  refine Nat.le_trans (ih (PG m s)) ?_;unfold PG;split
  ·exact List.length_filter_le _ _
  ·exact Nat.le_refl _
theorem NQ(s:Gr.Stp): (Gr.cleanS s).nd.frm.length≤s.nd.frm.length∧(Gr.cleanS s).nd.prog.length≤s.nd.prog.length:=by
 unfold Gr.cleanS
 repeat' split
 all_goals constructor<;>simp
theorem AA.le{w w':World}(g:AA w w'): w.heap.size≤w'.heap.size:=g.below.size
theorem seven{W:World}{Z:Nat}{c0 c1 c2 c3 c4 c5 c6:Value}{t:TypeId}(h:W.heap[Z]? = some (.cells #[c0,c1,c2,c3,c4,c5,c6] t)):
  W.cell? ⟨Z,0,none⟩=some c0∧W.cell? ⟨Z,1,none⟩=some c1∧W.cell? ⟨Z,2,none⟩=some c2∧W.cell? ⟨Z,3,none⟩=some c3∧W.cell? ⟨Z,4,none⟩=some c4∧W.cell? ⟨Z,5,none⟩=some c5∧W.cell? ⟨Z,6,none⟩=some c6 ∧
  (∀o,W.frozen? ⟨Z,o,none⟩=false)∧Ad Z W :=
 ⟨(cell_of h).trans rfl,(cell_of h).trans rfl,(cell_of h).trans rfl,(cell_of h).trans rfl,(cell_of h).trans rfl,(cell_of h).trans rfl,(cell_of h).trans rfl,fun _=>AJ h,Ad.mk (AB h)⟩
end Go.Proofs.YtgebkpgilgppgaaGreat
