import Derived.Test.YtipgfjihdglocaaGreatCw27
import Derived.Test.YtipgfjihdglocaaGreatCw22
import Derived.Test.YtipgfjihdglocaaGreatCw26
import Derived.Deep.QuietTactic
import Derived.BigQuiet
import Derived.Deep.LoopGhost
import Derived.Test.YtipgfjihdglocaaGreatCw25
set_option linter.unusedSimpArgs false
set_option linter.unusedVariables false
set_option maxRecDepth 100000
set_option maxHeartbeats 64000000
namespace Go.Proofs.YtipgfjihdglocaaGreat
open Go.RowKit Ga
theorem numS_upto{a b:Int}(s:Gr.Rs)(ha:0≤a)(hb:0≤b): 0≤(Gr.numS a b s).1∧(Gr.numS a b s).1≤b:=by
 unfold Gr.numS;split
 ·exact⟨Int.le_refl _,hb⟩
 ·unfold Gr.wn;split
  ·exact⟨Int.le_refl _,hb⟩
  ·split
   ·exact⟨Int.le_refl _,hb⟩
   ·simp only;omega
theorem stepS_len(s:Gr.Rs): (Gr.stepS getL s).2.1.length≤s.1.length:=by
 unfold Gr.stepS;simp only;have l1:=numS_len 1 5 s;have l2:=numS_len 0 1 (Gr.numS 1 5 s).2;have l3:=nodeS_len 0 (Gr.numS 0 1 (Gr.numS 1 5 s).2).2;omega
theorem stepsS_succ:∀(k:Nat) (s:Gr.Rs),Gr.stepsS getL (k+1) s=((Gr.stepsS getL k s).1++[(Gr.stepS getL (Gr.stepsS getL k s).2).1],(Gr.stepS getL (Gr.stepsS getL k s).2).2)
 | 0,s=>rfl
 |k+1,s=>by
  have ih:=stepsS_succ k (Gr.stepS getL s).2;rw[Gr.stepsS,ih];rfl
theorem stepsS_len:∀(k:Nat) (s:Gr.Rs),(Gr.stepsS getL k s).1.length=k∧(Gr.stepsS getL k s).2.1.length≤s.1.length
 | 0,s=>⟨rfl,Nat.le_refl _⟩
 |k+1,s=>by
  obtain⟨h1,h2⟩:=stepsS_len k (Gr.stepS getL s).2;refine⟨?_,?_⟩
  ·rw[Gr.stepsS,List.length_cons,h1]
  ·rw[Gr.stepsS];exact Nat.le_trans h2 (stepS_len s)
theorem stepS_small(s:Gr.Rs): (Gr.stepS getL s).1.nd.frm.length≤3∧(Gr.stepS getL s).1.nd.prog.length≤24:=by
 unfold Gr.stepS;simp only;have:=nodeS_small 0 (Gr.numS 0 1 (Gr.numS 1 5 s).2).2;exact⟨this.1,this.2.1⟩
theorem stepsS_small:∀(k:Nat) (s:Gr.Rs),∀x∈(Gr.stepsS getL k s).1,x.nd.frm.length≤3∧x.nd.prog.length≤24
 | 0,s,x,h=>by cases h
 |k+1,s,x,h=>by
  rw[Gr.stepsS] at h;rcases List.mem_cons.1 h with rfl|h1
  ·exact stepS_small s
  ·exact stepsS_small k _ x h1
open Classical in
noncomputable def cleanB(l:List Gr.Stp): Bool:=decide (∀x∈l,Gr.cleanS x=x)
theorem cleanB_nil:cleanB []=true:=by unfold cleanB;simp
theorem cleanB_snoc(l:List Gr.Stp)(x:Gr.Stp): cleanB (l++[x])=(cleanB l&&eqSt x (Gr.cleanS x)):=by
 unfold cleanB eqSt;rw[Bool.eq_iff_iff];simp only[Bool.and_eq_true,decide_eq_true_eq,List.mem_append,List.mem_singleton];constructor
 ·intro h;exact⟨fun y hy=>h y (.inl hy),(h x (.inr rfl)).symm⟩
 ·rintro⟨h1,h2⟩ y (hy|rfl)
  ·exact h1 y hy
  ·exact h2.symm
theorem getPl_end{s:List UInt8}{l:List Gr.Stp}{z:List UInt8}{x:Int}(h:Gr.planS getL s=(l,(z,x))): Gr.getPl getL s=if endE (z,x) (cleanB l)=0 then (l,0) else ([],endE (z,x) (cleanB l)):=by
 unfold Gr.getPl;rw[h];simp only;by_cases hx:x=0
 ·subst hx
  have he:endE (z,0) (cleanB l)=if (decide (0<z.length) || !cleanB l)=true then 4 else 0:=by
   unfold endE;rw[if_neg (by simp)]
  have hP:(0<z.length∨¬∀x∈l,Gr.cleanS x=x)↔(decide (0<z.length) || !cleanB l)=true:=by
   unfold cleanB;by_cases h1:0<z.length<;>by_cases h2:(∀x∈l,Gr.cleanS x=x)<;>simp[h1,h2]
  rw[if_neg (by simp),he];by_cases hb:(decide (0<z.length) || !cleanB l)=true
  ·rw[if_pos (hP.2 hb),if_pos hb,if_neg (by decide)]
  ·rw[if_neg (fun h=>hb (hP.1 h)),if_neg hb,if_pos rfl]
 ·have he:endE (z,x) (cleanB l)=x:=by
   unfold endE;rw[if_pos hx]
  rw[if_pos hx,he,if_neg hx]
theorem getPl_small(s:List UInt8): ∀x∈(Gr.getPl getL s).1,x.nd.frm.length≤1000∧x.nd.prog.length≤1000:=by
 obtain⟨l,⟨z,x⟩,hg⟩:∃l t,Gr.planS getL s=(l,t):=⟨_,_,rfl⟩;rw[getPl_end hg];have h:=stepsS_small (Gr.numS 1 6 (s,0)).1.toNat (Gr.numS 1 6 (s,0)).2;unfold Gr.planS at hg;rw[hg] at h;split
 ·intro y hy;have:=h y hy;omega
 ·intro y hy;cases hy
abbrev StepsOwn(base:Nat)(w:World)(v:Value)(lc:List StC): Prop:=OwnAt base 69 15 encSt w v lc
def StepsIn(base:Nat)(w:World)(lc:List StC)(l:List Gr.Stp): Prop:=Rel (fun c s=>StepIs w c s∧OwnsNd base w c.c s.nd) lc l
theorem StepIs.of{w w':World}{base:Nat}{c:StC}{s:Gr.Stp}(h:StepIs w c s)(o:OwnsNd base w' c.c s.nd): StepIs w' c s:=⟨h.kind,o.is h.nd,h.reset⟩
theorem StepsIn.at{base:Nat}{w:World}{v:Value}{lc:List StC}{l:List Gr.Stp}(h:StepsIn base w lc l)(ho:StepsOwn base w v lc): StepsAt w v l :=
 ⟨lc,OwnAt.rows ho encSt_len,Rel.len h,fun i c s h1 h2=>(Rel.get h i c s h1 h2).1⟩
theorem StepsIn.map{base:Nat}{w w':World}{lc:List StC}{l:List Gr.Stp}(h:StepsIn base w lc l)(hk:∀c n,OwnsNd base w c n→OwnsNd base w' c n): StepsIn base w' lc l :=
 Rel.mono (fun c s ⟨h1,h2⟩=>⟨h1.of (hk _ _ h2),hk _ _ h2⟩) h
theorem StepsIn.keep2{base base0 A B:Nat}{w w':World}{lc:List StC}{l:List Gr.Stp}{s:Gr.Rs}(h:StepsIn base w lc l)(hk:Keep2 A B w w')(hr:RdAt base0 A B w s): StepsIn base w' lc l:=h.map fun _ _ o=>o.keep2 hk hr
theorem StepsIn.grew{base:Nat}{w w':World}{lc:List StC}{l:List Gr.Stp}(h:StepsIn base w lc l)(g:Grew w w'): StepsIn base w' lc l:=h.map fun _ _ o=>o.grew g
def But(T:Nat)(w w':World): Prop:=∀q,q≠T→w'.heap[q]? = w.heap[q]?
theorem OwnAt.but{α:Type}{base T:Nat}{e t:TypeId}{k:Nat}{enc:α→List Value}{w w':World}{v:Value}{l:List α}{c:Array Value}{f:Nat×Nat}(h:OwnAt base e k enc w v l)(hb:But T w w')(hT:w.heap[T]? = some (.cells c t f))(ht:t≠e): OwnAt base e k enc w' v l :=
 OwnAt.same h fun b hv=>hb b fun q=>by
  subst q;exact own_ne h hT ht hv
theorem OwnsNd.but{base T:Nat}{t:TypeId}{w w':World}{c:NdC}{n:Gr.Nd}{cs:Array Value}{f:Nat×Nat}(o:OwnsNd base w c n)(hb:But T w w')(hT:w.heap[T]? = some (.cells cs t f))(h1:t≠3:=by decide)(h2:t≠187:=by decide): OwnsNd base w' c n:=⟨OwnAt.but o.1 hb hT h1,OwnAt.but o.2 hb hT h2⟩
theorem RdAt.but{base A B T:Nat}{w w':World}{s:Gr.Rs}(h:RdAt base A B w s)(hb:But T w w')(hA:A≠T)(hB:B≠T): RdAt base A B w' s:=⟨h.1,by rw[hb A hA];exact h.2.1,h.2.2.1,by rw[hb B hB];exact h.2.2.2⟩
theorem OwnAt.butNe{α:Type}{base T:Nat}{e:TypeId}{k:Nat}{enc:α→List Value}{w w':World}{v:Value}{l:List α}(h:OwnAt base e k enc w v l)(hb:But T w w')(hT:v.ownBlock≠some T): OwnAt base e k enc w' v l :=
 OwnAt.same h fun b hv=>hb b fun q=>by
  subst q;exact hT hv
theorem st_at(W:World)(x:StC)(t:TypeId)(b:Nat){c:Array Value}(hc:c=(encSt x).toArray)(hb:b=W.heap.size): ∀j u,(([x]:List StC).flatMap encSt)[j]? = some u→(W.alloc (.cells c t)).cell? ⟨b,j,none⟩=some u:=by
 subst hc;intro j u hu;rw[new_cells W _ t b hb j];simpa using hu
theorem infoStep:(Tryz.prog.info? 69).map (fun i=>(i.zero,i.size,i.bytes))=some (some (.agg #[.int .i64 0,.int .i64 0,.int .i64 0,.slice none 0 0,.slice none 0 0,.int .i64 0,.int .i64 0,.int .i64 0,.int .i64 0,.int .i64 0,.int .i64 0,.int .i64 0,.int .i64 0,.int .i64 0,.bool false]),15,152):=by kernel_rfl
theorem OwnsNd.to3{base:Nat}{w w':World}{c:NdC}{n:Gr.Nd}(o:OwnsNd base w c n)(hb:∀(q:Nat) (cs:Array Value) (t:TypeId),w.heap[q]? = some (.cells cs t)→base≤q→t≠69→w'.heap[q]? = w.heap[q]?): OwnsNd base w' c n:=by
 refine⟨OwnAt.same o.1 fun b h=>?_,OwnAt.same o.2 fun b h=>?_⟩
 ·obtain⟨h1,cs,h2⟩:=OwnAt.block o.1 h;exact hb b cs _ h2 h1 (by decide)
 ·obtain⟨h1,cs,h2⟩:=OwnAt.block o.2 h;exact hb b cs _ h2 h1 (by decide)
theorem steps_round{w0 wr W3 W':World}{A B base base2:Nat}{v v':Value}{lc:List StC}{c:StC}{l:List Gr.Stp}{y:Gr.Stp}{s:Gr.Rs}(hr:RdAt w0.heap.size A B wr s)(ho:StepsOwn w0.heap.size wr v lc)(hn:StepsIn base wr lc l)(h9:StepIs wr c y)(o9:OwnsNd base2 wr c.c y.nd)(hb:base≤base2)(g:Grew wr W3)
  (hA:Appended w0 69 15 encSt W3 v (lc++[c]) v' W') :
  StepsIn base W' (lc++[c]) (l++[y])∧RdAt w0.heap.size A B W' s:=by
 have ho3:StepsOwn w0.heap.size W3 v lc:=OwnAt.grew ho g;have hk:∀c n,OwnsNd base W3 c n→OwnsNd base W' c n:=fun c n o=>o.to3 fun q cs t hq _ hne=>hA.2.2.2.1 q (heap_lt hq) (OwnAt.other ho3 hq hne)
 have h5:OwnsNd base W' c.c y.nd:=hk _ _ ((o9.grew g).low hb);exact⟨Rel.snoc ((hn.grew g).map hk) ⟨(h9.grew g).of h5,h5⟩,RdAt.app (hr.grew g) ho3 hA⟩
def IsSt(z:Gr.Stp)(v:Value)(w:World): Prop:=∃d:StC,v = .agg #[.int .i64 d.kind,.int .i64 d.c.id,.int .i64 d.c.kind,.slice d.c.af d.c.nf d.c.cf,.slice d.c.ap d.c.np d.c.cp,.int .i64 d.c.par,.int .i64 d.c.r0,.int .i64 d.c.r1,.int .i64 d.c.r2,.int .i64 d.c.r3,.int .i64 d.c.r4,.int .i64 d.c.r5,.int .i64 d.c.r6,.int .i64 d.c.r7,.bool d.reset]∧StepIs w d z
theorem IsSt.st(z:Gr.Stp): ∀v w w',IsSt z v w→Grew w w'→IsSt z v w':=fun _ _ _ ⟨d,h1,h2⟩ g=>⟨d,h1,h2.grew g⟩
theorem setNd15{W:World}{q:Nat}{t:TypeId}{u0 u1 u2 u3 u4 u5 u6 u7 u8 u9 u10 u11 u12 u13 u14:Value}(h:W.heap[q]? = some (.cells #[u0,u1,u2,u3,u4,u5,u6,u7,u8,u9,u10,u11,u12,u13,u14] t))(v1 v2 v3 v4 v5 v6 v7 v8 v9 v10 v11 v12 v13:Value): (((((((((((((W.setCell ⟨q,1,none⟩ v1).setCell ⟨q,2,none⟩ v2).setCell ⟨q,3,none⟩ v3).setCell ⟨q,4,none⟩ v4).setCell ⟨q,5,none⟩ v5).setCell ⟨q,6,none⟩ v6).setCell ⟨q,7,none⟩ v7).setCell ⟨q,8,none⟩ v8).setCell ⟨q,9,none⟩ v9).setCell ⟨q,10,none⟩ v10).setCell ⟨q,11,none⟩ v11).setCell ⟨q,12,none⟩ v12).setCell ⟨q,13,none⟩ v13).heap[q]? = some (.cells #[u0,v1,v2,v3,v4,v5,v6,v7,v8,v9,v10,v11,v12,v13,u14] t):=by
 have h1:=set_self (o:=1) (v:=v1) h;simp at h1;have h2:=set_self (o:=2) (v:=v2) h1;simp at h2;have h3:=set_self (o:=3) (v:=v3) h2;simp at h3;have h4:=set_self (o:=4) (v:=v4) h3;simp at h4;have h5:=set_self (o:=5) (v:=v5) h4;simp at h5;have h6:=set_self (o:=6) (v:=v6) h5;simp at h6;have h7:=set_self (o:=7) (v:=v7) h6;simp at h7;have h8:=set_self (o:=8) (v:=v8) h7;simp at h8;have h9:=set_self (o:=9) (v:=v9) h8;simp at h9;have h10:=set_self (o:=10) (v:=v10) h9;simp at h10;have h11:=set_self (o:=11) (v:=v11) h10;simp at h11;have h12:=set_self (o:=12) (v:=v12) h11;simp at h12;have h13:=set_self (o:=13) (v:=v13) h12;simp at h13;exact h13
def GetPlOwn(r:List Gr.Stp×Int)(w:World)(e:Ending)(w':World): Prop:=∃v lc,e = .returned (.tuple #[v,.int .i64 r.2])∧StepsOwn w.heap.size w' v lc∧StepsIn w.heap.size w' lc r.1∧Grew w w'
theorem getPlanO_any(s:List UInt8)(w:World)(hs:s.length≤100000): Calls Tryz.prog 44 #[.string ⟨s.toArray⟩] w (GetPlOwn (Gr.getPl getL s) w):=by
 obtain⟨l,⟨z,x⟩,hg⟩:∃l t,Gr.planS getL s=(l,t):=⟨_,_,rfl⟩;rw[getPl_end hg];obtain⟨res,hres⟩:∃r,(if endE (z,x) (cleanB l)=0 then (l,0) else (([]:List Gr.Stp),endE (z,x) (cleanB l)))=r:=⟨_,rfl⟩;rw[hres];have HRES:=hY hres;clear hres;have hr:=numS_upto (a:=1) (b:=6) (s,0) (by decide) (by decide);have hl0:=numS_len 1 6 (s,0);have hN:=fun W h g=>rdNum_any w (w.heap.size+1) w.heap.size (s,0) 1 6 W h g (by simpa using Nat.le_trans hs (by decide))
 unfold Gr.planS at hg;generalize Gr.numS 1 6 (s,0)=r at *;obtain⟨n,s1⟩:=r;simp only at hN hr hl0 hg;obtain⟨N,rfl⟩:∃N:Nat,n=N:=⟨n.toNat,by omega⟩;rw[Int.toNat_natCast] at hg;have hN6:N≤6:=by omega
 have HN:=hY hN;have HGG:=hY hg;have HRD:=hY (rd_new w s);clear hN hg hr;go_enter Tryz.func44,Tryz.ntmps44
 go_wp2_with fail
 refine(octNew_any s _).mono ?_;rintro e w1 ⟨rfl,rfl⟩
 go_wp2_with fail
 refine(HN.o _ HRD.o gw).mono ?_;rintro e w1 ⟨rfl,hr1,hg1,hk1⟩;have HR1:=hY hr1;have HG1:=hY hg1;clear hr1 hg1 hk1;go_wp2
 go_loopg [5,6,15] N (fun gg s5 s6 s15 wr=>∃(k:Nat) (vk:Value) (lc:List StC),k≤N∧N-k≤gg∧s15 = .int .i64 k∧vk=s5∧s6 = .bool (cleanB (Gr.stepsS getL k s1).1)∧Hid (StepsOwn w.heap.size wr vk lc)∧Hid (StepsIn w.heap.size wr lc (Gr.stepsS getL k s1).1)∧Hid (RdAt w.heap.size (w.heap.size+1) w.heap.size wr (Gr.stepsS getL k s1).2)∧Hid (Grew w wr))
 case atStart=>exact⟨0,_,[],Nat.zero_le _,by omega,rfl,rfl,by rw[show(Gr.stepsS getL 0 s1).1=[] from rfl,cleanB_nil],hY (OwnAt.nil _),hY trivial,HR1,HG1⟩
 case round =>
  obtain⟨k,vk,lc,hk,hgg,rfl,rfl,rfl,HO,HI,HR,HG⟩:=hrel;obtain⟨hl1,hl2⟩:=stepsS_len k s1;have hlc:=Rel.len HI.o;rw[hl1] at hlc;by_cases hlt:k<N
  ·have hsc:=stepsS_succ k s1;have hsm:=stepS_small (Gr.stepsS getL k s1).2;have hcl:=cleanB_snoc (Gr.stepsS getL k s1).1 (Gr.stepS getL (Gr.stepsS getL k s1).2).1;generalize hLS:Gr.stepsS getL k s1=LS at *;obtain⟨ls,sr⟩:=LS;simp only at hl1 hl2 hsc hsm hcl HI HR ⊢;have n1:=rdNum_any w (w.heap.size+1) w.heap.size sr 1 5;have z1:=numS_len 1 5 sr;obtain⟨kd,sa,e1⟩:∃x t,Gr.numS 1 5 sr=(x,t):=⟨_,_,rfl⟩;rw[e1] at n1 z1;have n2:=rdNum_any w (w.heap.size+1) w.heap.size sa 0 1;have z2:=numS_len 0 1 sa;obtain⟨rs,sb,e2⟩:∃x t,Gr.numS 0 1 sa=(x,t):=⟨_,_,rfl⟩;rw[e2] at n2 z2;have n3:=rdNode_any w (w.heap.size+1) w.heap.size sb 0 (.inl (by decide));obtain⟨nd,sc,e3⟩:∃x t,Gr.nodeS getL 0 sb=(x,t):=⟨_,_,rfl⟩;rw[e3] at n3;have hst:Gr.stepS getL sr=(⟨kd,nd,rs==1⟩,sc):=by unfold Gr.stepS;simp only[e1,e2,e3]
   rw[hst] at hsc hsm hcl;simp only at n1 n2 n3 z1 z2 hsc hsm hcl;have N1:=hY n1;have N2:=hY n2;have N3:=hY n3;have HSC:=hY hsc;have HSM:=hY hsm;have HCL:=hY hcl;have HLC:=hY hlc;have HLS:=hY hLS;have hBlt:=heap_lt HR.o.2.2.2;have hAlt:=heap_lt HR.o.2.1;obtain⟨ak,ck,rfl⟩:=(OwnAt.rows HO.o encSt_len).len;clear n1 n2 n3 hsc hsm hcl hlc e1 e2 e3 hst hl1 hLS
   go_wp2_with fail
   refine(N1.out _ HR.o HG.o (by omega)).mono ?_;rintro e W1 ⟨rfl,r1,g1,k1⟩;have R1:=hY r1;have G1:=hY g1;have K1:=hY k1;clear r1 g1 k1
   go_wp2_with fail
   refine(N2.out _ R1.out G1.out (by omega)).mono ?_;rintro e W2 ⟨rfl,r2,g2,k2⟩;have R2:=hY r2;have G2:=hY g2;have K2:=hY (K1.out.trans k2);have y2:=K2.out.1;clear r2 g2 k2;have H5:=hY (heap_new_at W2 (.cells #[.int .i64 kd,.int .i64 0,.int .i64 0,.slice none 0 0,.slice none 0 0,.int .i64 0,.int .i64 0,.int .i64 0,.int .i64 0,.int .i64 0,.int .i64 0,.int .i64 0,.int .i64 0,.int .i64 0,.bool (rs==1)] 69) _ rfl)
   go_wp2_with fail
   refine(N3.out _ (R2.out.grew gw) (G2.out.trans gw) (by omega)).mono ?_;rintro e W3 ⟨c9,rfl,hn9,ho9,rd3,g3,k3⟩;obtain⟨id,knd,af,cf,ap,cp,par,r0,r1,r2,r3,r4,r5,r6,r7,rfl⟩:=hn9.lit;have hTA:W2.heap.size≠(w.heap.size+1):=by omega
   have hTB:W2.heap.size≠w.heap.size:=by omega
   have h53:=k3.2 W2.heap.size (by rw[World.size_alloc];omega) hTA hTB;rw[H5.o] at h53;have q0:=cell_of (o:=0) h53;have f0:=frozen_of (o:=0) h53;have q1:=cell_of (o:=1) h53;have f1:=frozen_of (o:=1) h53;have q2:=cell_of (o:=2) h53;have f2:=frozen_of (o:=2) h53;have q3:=cell_of (o:=3) h53;have f3:=frozen_of (o:=3) h53;have q4:=cell_of (o:=4) h53;have f4:=frozen_of (o:=4) h53;have q5:=cell_of (o:=5) h53;have f5:=frozen_of (o:=5) h53;have q6:=cell_of (o:=6) h53;have f6:=frozen_of (o:=6) h53;have q7:=cell_of (o:=7) h53;have f7:=frozen_of (o:=7) h53;have q8:=cell_of (o:=8) h53;have f8:=frozen_of (o:=8) h53;have q9:=cell_of (o:=9) h53;have f9:=frozen_of (o:=9) h53;have q10:=cell_of (o:=10) h53;have f10:=frozen_of (o:=10) h53;have q11:=cell_of (o:=11) h53;have f11:=frozen_of (o:=11) h53;have q12:=cell_of (o:=12) h53;have f12:=frozen_of (o:=12) h53;have q13:=cell_of (o:=13) h53;have f13:=frozen_of (o:=13) h53;have q14:=cell_of (o:=14) h53;have f14:=frozen_of (o:=14) h53;simp at q0 q1 q2 q3 q4 q5 q6 q7 q8 q9 q10 q11 q12 q13 q14;have p3:=Pre.mk (heap_lt h53);have hT0:w.heap.size≤W2.heap.size:=G2.out.below.size;obtain⟨W4,hW4⟩:∃W4,(((((((((((((W3.setCell ⟨W2.heap.size,1,none⟩ (.int .i64 id)).setCell ⟨W2.heap.size,2,none⟩ (.int .i64 knd)).setCell ⟨W2.heap.size,3,none⟩ (.slice af nd.frm.length cf)).setCell ⟨W2.heap.size,4,none⟩ (.slice ap nd.prog.length cp)).setCell ⟨W2.heap.size,5,none⟩ (.int .i64 par)).setCell ⟨W2.heap.size,6,none⟩ (.int .i64 r0)).setCell ⟨W2.heap.size,7,none⟩ (.int .i64 r1)).setCell ⟨W2.heap.size,8,none⟩ (.int .i64 r2)).setCell ⟨W2.heap.size,9,none⟩ (.int .i64 r3)).setCell ⟨W2.heap.size,10,none⟩ (.int .i64 r4)).setCell ⟨W2.heap.size,11,none⟩ (.int .i64 r5)).setCell ⟨W2.heap.size,12,none⟩ (.int .i64 r6)).setCell ⟨W2.heap.size,13,none⟩ (.int .i64 r7))=W4:=⟨_,rfl⟩
   have hT4:W4.heap[W2.heap.size]? = some (.cells #[.int .i64 kd,.int .i64 id,.int .i64 knd,.slice af nd.frm.length cf,.slice ap nd.prog.length cp,.int .i64 par,.int .i64 r0,.int .i64 r1,.int .i64 r2,.int .i64 r3,.int .i64 r4,.int .i64 r5,.int .i64 r6,.int .i64 r7,.bool (rs==1)] 69):=by
    rw[←hW4];exact setNd15 h53 _ _ _ _ _ _ _ _ _ _ _ _ _
   have hbut:But W2.heap.size W3 W4:=by
    intro q hq;rw[←hW4]
    iterate 13 rw[set_other (fun e=>hq e.symm)]
   have g4:Grew w W4:=by
    rw[←hW4]
    iterate 13 refine Grew.set ?_ hT0 _
    exact g3
   have G4:=hY g4;have HW4:=hY hW4;have HT4:=hY hT4;have hO3:=OwnAt.keep2 HO.o (K2.out.trans ((Keep2.ofGrew gw).trans k3)) HR.o;have hI3:=HI.o.keep2 (K2.out.trans ((Keep2.ofGrew gw).trans k3)) HR.o;have O4:=hY (OwnAt.butNe hO3 hbut (fun h=>by have:=OwnAt.block HO.o h;obtain⟨_,_,h9⟩:=this;have:=heap_lt h9;omega));have I4:=hY (hI3.map fun _ _ o=>o.but hbut h53);have R4:=hY (RdAt.but rd3 hbut (fun e=>hTA e.symm) (fun e=>hTB e.symm));have ON4:Hid (OwnsNd w.heap.size W4 ⟨id,knd,af,nd.frm.length,cf,ap,nd.prog.length,cp,par,r0,r1,r2,r3,r4,r5,r6,r7⟩ (Gr.Stp.mk kd nd (rs==1)).nd):=hY (OwnsNd.low (base':=w.heap.size) (ho9.but hbut h53) (by rw[World.size_alloc];omega));have N4:Hid (StepIs W4 ⟨kd,⟨id,knd,af,nd.frm.length,cf,ap,nd.prog.length,cp,par,r0,r1,r2,r3,r4,r5,r6,r7⟩,rs==1⟩ ⟨kd,nd,rs==1⟩):=hY ⟨rfl,ON4.out.is hn9,rfl⟩;clear hn9 ho9 rd3 g3 k3 hO3 hI3 hbut hT4 g4 h53 hW4
   go_upto_region 8 with fail
   rw[HW4.o];clear q0 f0 q1 f1 q2 f2 q3 f3 q4 f4 q5 f5 q6 f6 q7 f7 q8 f8 q9 f9 q10 f10 q11 f11 q12 f12 q13 f13 q14 f14 p3;have c0:=cell_of (o:=0) HT4.o;have c1:=cell_of (o:=1) HT4.o;have c2:=cell_of (o:=2) HT4.o;have c3:=cell_of (o:=3) HT4.o;have c4:=cell_of (o:=4) HT4.o;have c5:=cell_of (o:=5) HT4.o;have c6:=cell_of (o:=6) HT4.o;have c7:=cell_of (o:=7) HT4.o;have c8:=cell_of (o:=8) HT4.o;have c9:=cell_of (o:=9) HT4.o;have c10:=cell_of (o:=10) HT4.o;have c11:=cell_of (o:=11) HT4.o;have c12:=cell_of (o:=12) HT4.o;have c13:=cell_of (o:=13) HT4.o;have c14:=cell_of (o:=14) HT4.o;simp at c0 c1 c2 c3 c4 c5 c6 c7 c8 c9 c10 c11 c12 c13 c14;have p4:=Pre.mk (heap_lt HT4.o);generalize hy:Gr.Stp.mk kd nd (rs==1)=y at *;have hsy:y.nd.frm.length≤1000∧y.nd.prog.length≤1000:=by rw[←hy];show nd.frm.length≤1000∧nd.prog.length≤1000;have:=HSM.o;omega
   have hsz:=clean_small hsy;have HY:=hY hy;have ON5:Hid (OwnsNd w.heap.size W4 ⟨id,knd,af,nd.frm.length,cf,ap,nd.prog.length,cp,par,r0,r1,r2,r3,r4,r5,r6,r7⟩ y.nd):=hY (by rw[←hy];exact ON4.out);have HCY:=hY fun W (g:Grew W4 W)=>clean49_any ⟨kd,⟨id,knd,af,nd.frm.length,cf,ap,nd.prog.length,cp,par,r0,r1,r2,r3,r4,r5,r6,r7⟩,rs==1⟩ y W (N4.out.grew g) hsy
   have HEX:=hY fun d W (g:Grew W4 W) (h:StepIs W d (Gr.cleanS y))=>exact_any ⟨kd,⟨id,knd,af,nd.frm.length,cf,ap,nd.prog.length,cp,par,r0,r1,r2,r3,r4,r5,r6,r7⟩,rs==1⟩ d y (Gr.cleanS y) W (N4.out.grew g) h hsy hsz
   clear hy hsy hsz;cases hcb:cleanB ls
   ·have HCB:=hY (HCL.o.trans (by rw[hcb,Bool.false_and]));clear hcb
    go_quiet (fail)
    go_wp2_with (at_builtin;go_loud (refine wpList_ownK (w0:=w) rfl (.tmp 33) (.tmp 35) 34 _ _ _ _ [⟨kd,⟨id,knd,af,nd.frm.length,cf,ap,nd.prog.length,cp,par,r0,r1,r2,r3,r4,r5,r6,r7⟩,rs==1⟩] rfl Tryz.underlying34 infoStep rfl (by decide) encSt_len encSt_one rfl (OwnAt.grew O4.out gw) (G4.out.trans gw) rfl (st_at _ _ _ _ rfl (by simp[go_sem])) (by rw[HLC.o];simp;omega) (by decide) (by simp) ?_;intro v5 W5 hA;(have HA:=hY hA);clear hA))
    obtain⟨q1,q2⟩:=steps_round R4.out O4.out I4.out N4.out ON5.out (Nat.le_refl _) gw HA.o;have Q1:=hY q1;have Q2:=hY q2;clear q1 q2
    go_roundg (N-(k+1))
    case measure=>omega
    case rel=>exact⟨k+1,_,_,by omega,by omega,by go_num,rfl,by rw[HSC.o];show Value.bool false=Value.bool (cleanB (ls++[y]));rw[HCB.o],hY HA.o.2.1,hY (by rw[HSC.o];exact Q1.out),hY (by rw[HSC.o];exact Q2.out),hY HA.o.1⟩
   ·have HCB:=hY (HCL.o.trans (by rw[hcb,Bool.true_and]));clear hcb;refine wp_region_seq 7 Tryz.mixed (by kernel_rfl) (by kernel_rfl) ?_
    iterate 4
     apply Seq.val
     focus
      rintro w1 u ⟨R1,n1,rfl⟩ hF;simp[moreFacts,Fact.more,Oper.deps,Region.binds,List.filter_cons,World.more_drew] at hF;simp[putFacts,Oper.deps,Region.binds,List.filter_cons,Region.dstOf,Fact.at,Act.put,World.more_drew];go_wp2;exact⟨gw,rfl,_,_,rfl,rfl,rfl⟩
    apply Seq.of (IsSt (Gr.cleanS y)) (IsSt.st _)
    focus
     rintro w1 u ⟨R1,n1,rfl⟩ hF;simp[moreFacts,Fact.more,Oper.deps,Region.binds,List.filter_cons,World.more_drew] at hF;simp[putFacts,Oper.deps,Region.binds,List.filter_cons,Region.dstOf,Fact.at,Act.put,World.more_drew]
     go_wp2_with (first
      | (go_at_call 105;refine(HCY.o _ gw).mono ?_;rintro e w2 ⟨d1,rfl,h1,-,R3,n3,rfl⟩)
      )
     exact⟨gw,rfl,_,_,rfl,rfl,⟨d1,rfl,h1⟩⟩
    apply Seq.val
    focus
     rintro w1 u ⟨R1,n1,rfl⟩ hF;simp[moreFacts,Fact.more,Oper.deps,Region.binds,List.filter_cons,World.more_drew] at hF;simp[putFacts,Oper.deps,Region.binds,List.filter_cons,Region.dstOf,Fact.at,Act.put,World.more_drew];obtain⟨d,hu,hd⟩:=hF;rw[hu]
     go_wp2_with (first
      | (go_at_call 73;refine(HEX.o d _ gw hd).mono ?_;rintro e w2 ⟨rfl,R3,n3,rfl⟩)
      )
     exact⟨gw,rfl,_,_,rfl,rfl,rfl⟩
    iterate 1
     apply Seq.val
     focus
      rintro w1 u ⟨R1,n1,rfl⟩ hF;simp[moreFacts,Fact.more,Oper.deps,Region.binds,List.filter_cons,World.more_drew] at hF;simp[putFacts,Oper.deps,Region.binds,List.filter_cons,Region.dstOf,Fact.at,Act.put,World.more_drew];go_wp2;exact⟨gw,rfl,_,_,rfl,rfl,rfl⟩
    rintro u w1 ⟨R1,n1,rfl⟩ hF;clear hF;simp[putFacts,Region.dstOf,Fact.at,Act.put,List.range_succ,World.more_drew]
    go_wp2_with (at_builtin;go_loud (refine wpList_ownK (w0:=w) rfl (.tmp 33) (.tmp 35) 34 _ _ _ _ [⟨kd,⟨id,knd,af,nd.frm.length,cf,ap,nd.prog.length,cp,par,r0,r1,r2,r3,r4,r5,r6,r7⟩,rs==1⟩] rfl Tryz.underlying34 infoStep rfl (by decide) encSt_len encSt_one rfl (OwnAt.grew O4.out gw) (G4.out.trans gw) rfl (st_at _ _ _ _ rfl (by simp[go_sem])) (by rw[HLC.o];simp;omega) (by decide) (by simp) ?_;intro v5 W5 hA;(have HA:=hY hA);clear hA))
    obtain⟨q1,q2⟩:=steps_round R4.out O4.out I4.out N4.out ON5.out (Nat.le_refl _) gw HA.o;have Q1:=hY q1;have Q2:=hY q2;clear q1 q2
    go_roundg (N-(k+1))
    case measure=>omega
    case rel=>exact⟨k+1,_,_,by omega,by omega,by go_num,rfl,by rw[HSC.o];show Value.bool _=Value.bool (cleanB (ls++[y]));rw[HCB.o],hY HA.o.2.1,hY (by rw[HSC.o];exact Q1.out),hY (by rw[HSC.o];exact Q2.out),hY HA.o.1⟩
  ·obtain rfl:k=N:=by omega
   clear hlc hl1 hl2;have hR:=HR.o;have hat:=HI.o;have hres:=HRES.o;have hg:=HGG.o;rw[hg] at hR hat ⊢;simp only at hR hat ⊢;have HR5:=hY hR;have HAT:=hY hat;obtain⟨ak,ck,rfl⟩:=(OwnAt.rows HO.o encSt_len).len;by_cases he:endE (z,x) (cleanB l)=0
   ·rw[if_pos he] at hres;subst hres;have HE:=hY he;clear he hR hat hg
    go_wp2_with (go_at_call 103;refine(rdEnd_any _ _ _ (z,x) (cleanB l) _ HR5.o).mono ?_;rintro e w4 ⟨rfl,hw4⟩;obtain rfl:=hw4;rw[HE.o])
    exact bodyPost_ret (v:=.tuple #[.slice ak lc.length ck,.int .i64 0]) (by simp[results,Tryz.results44,go_sem]) rfl ⟨_,lc,rfl,HO.o,HAT.o,HG.o⟩
   ·rw[if_neg he] at hres;have hne:(endE (z,x) (cleanB l) != 0)=true:=by rw[bne_iff_ne];exact he
    generalize hen:endE (z,x) (cleanB l)=en at *;subst hres;have HEN:=hY hen;clear he hR hat hg hen
    go_wp2_with (go_at_call 103;refine(rdEnd_any _ _ _ (z,x) (cleanB l) _ HR5.o).mono ?_;rintro e w4 ⟨rfl,hw4⟩;obtain rfl:=hw4;rw[HEN.o])
    exact bodyPost_ret (v:=.tuple #[.slice none 0 0,.int .i64 en]) (by simp[results,Tryz.results44,go_sem]) rfl ⟨_,[],rfl,OwnAt.nil _,trivial,HG.o⟩
def GetPlPost(r:List Gr.Stp×Int)(w:World)(e:Ending)(w':World): Prop:=∃v,e = .returned (.tuple #[v,.int .i64 r.2])∧StepsAt w' v r.1∧Grew w w'
theorem getPlan_any(s:List UInt8)(w:World)(hs:s.length≤100000): Calls Tryz.prog 44 #[.string ⟨s.toArray⟩] w (GetPlPost (Gr.getPl getL s) w) :=
 (getPlanO_any s w hs).mono fun _ _ ⟨v,_,h1,h2,h3,h4⟩=>⟨v,h1,h3.at h2,h4⟩
theorem textR_tx{most:Int}(hm:0≤most)(z:List UInt8): (Gr.txS most (z,0)).1=(textR most z).1∧(Gr.txS most (z,0)).2.2=(textR most z).2.1∧((textR most z).2.1=0→(Gr.txS most (z,0)).2.1=(textR most z).2.2)∧((textR most z).1≠[]→(textR most z).2.1=0)∧((textR most z).1.length:Int)≤most:=by
 have hn:Gr.numS 0 most (z,0)=((within z 0 most).1,((within z 0 most).2.2,(within z 0 most).2.1)):=by unfold Gr.numS;rw[if_neg (by simp)];rfl
 unfold Gr.txS;rw[hn];unfold within textR;by_cases h4:z.length<4
 ·simp[h4,hm]
 ·rw[if_neg h4,if_neg h4];by_cases h5:Oc.num z<0∨most<Oc.num z
  ·rw[if_pos h5,if_pos h5];simp[hm]
  ·rw[if_neg h5,if_neg h5];by_cases h6:(z.length:Int)-4<Oc.num z
   ·rw[if_pos h6];have h7:z.length-4<(Oc.num z).toNat:=by omega
    simp[hm,h7]
   ·rw[if_neg h6];have h7:¬z.length-4<(Oc.num z).toNat:=by omega
    simp[h7,List.drop_drop];omega
theorem StepsIn.lower{base base':Nat}{w:World}{lc:List StC}{l:List Gr.Stp}(h:StepsIn base w lc l)(hb:base'≤base): StepsIn base' w lc l :=
 Rel.mono (fun c s ⟨h1,h2⟩=>⟨h1,h2.low hb⟩) h
def RdPlan(w0 W:World)(A B:Nat)(r:List Gr.Stp×Gr.Rs)(e:Ending)(W':World): Prop:=∃v lc s',e = .returned v∧StepsOwn W.heap.size W' v lc∧StepsIn W.heap.size W' lc r.1∧RdAt w0.heap.size A B W' s'∧s'.2=r.2.2∧(s'.2=0→s'=r.2)∧Grew w0 W'∧Keep2 A B W W'
theorem rdPlan_any(w0:World)(A B:Nat)(s:Gr.Rs)(W:World)(h:RdAt w0.heap.size A B W s)(hg:Grew w0 W)(hs:s.1.length≤1000000):
  Calls Tryz.prog 102 #[.pointer (some ⟨A,0,none⟩)] W (RdPlan w0 W A B (Gr.plS getL s)):=by
 have H:=hY h;have HG:=hY hg;have c0:=cell_of (o:=0) h.2.1;have c1:=cell_of (o:=1) h.2.1;have hAl:=heap_lt h.2.1;have hpA:=Pre.mk (heap_lt h.2.1);simp at c0 c1;obtain⟨z,x⟩:=s;simp only at hs c1;by_cases he:x=0
 ·subst he;have ht:=textR_tx (most:=8000) (by decide) z;have hw:=octGetText_any w0 B z 8000 W h.2.2 hg hs;obtain⟨t,er,z',hr⟩:∃t er z',textR 8000 z=(t,er,z'):=⟨_,_,_,rfl⟩;obtain⟨T,S,hS⟩:∃T S,Gr.txS 8000 (z,0)=(T,S):=⟨_,_,rfl⟩;rw[hr,hS] at ht;rw[hr] at hw;simp only at ht hw;obtain⟨rfl,t2,t3,t4,t5⟩:=ht;have HW:=hY hw;clear h hg hw hr;cases hb:T.isEmpty
  ·have hne:T≠[]:=by rintro rfl;cases hb
   obtain rfl:=t4 hne;obtain⟨S1,S2⟩:=S;simp only at t2 t3;obtain rfl:=t2;obtain rfl:S1=z':=by simpa using t3
   have hpl:Gr.plS getL (z,0)=((Gr.getPl getL T).1,(S1,(Gr.getPl getL T).2)):=by
    unfold Gr.plS;rw[hS];simp only;rw[if_neg hne]
   rw[hpl];have HP:=hY fun w=>getPlanO_any T w (by omega)
   obtain⟨l,e2,hl⟩:∃l e2,Gr.getPl getL T=(l,e2):=⟨_,_,rfl⟩;rw[hl] at HP ⊢;simp only at HP ⊢;clear hpl hS hne t3 t4 t5 hl;go_enter Tryz.func102,Tryz.ntmps102
   go_wp2_with (first
    | (go_at_call 150;refine HW.o.mono ?_;rintro e w1 ⟨rfl,hr1,hg1,hk1⟩;obtain⟨hA1,hR1⟩:=RdAt.put (e:=0) H.o hr1 hk1;(have d1:=cell_of (o:=1) hA1);(have g1:=frozen_of (o:=1) hA1);(have pA1:=Pre.mk (heap_lt hA1));simp at d1;(have HR1:=hY hR1);(have HG1:=hY hg1);(have HK1:=hY hk1);clear hr1 hg1 hk1 hA1 hR1)
    | (go_at_call 44;refine(HP.o _).mono ?_;rintro e w2 ⟨v2,lc,rfl,o2,i2,q2⟩;(have HR2:=hY (HR1.o.grew q2));(have HQ2:=hY q2);(have e1:=cell_of (o:=1) HR2.o.2.1);(have f1:=frozen_of (o:=1) HR2.o.2.1);(have pA2:=Pre.mk (heap_lt HR2.o.2.1));simp at e1;(have O2:=hY o2);(have I2:=hY i2);clear o2 i2 q2))
   have hA0:w0.heap.size≤A:=H.o.1;have hbut:But A w2 (w2.setCell ⟨A,1,none⟩ (.int .i64 e2)):=fun q hq=>set_other fun e=>hq e.symm
   have hR3:RdAt w0.heap.size A B (w2.setCell ⟨A,1,none⟩ (.int .i64 e2)) (S1,e2):=⟨hA0,by rw[set_self HR2.o.2.1];rfl,HR2.o.2.2.1,by rw[set_other HR2.o.ne];exact HR2.o.2.2.2⟩;refine bodyPost_ret (v:=v2) ?_ rfl ⟨v2,lc,(S1,e2),rfl,?_,?_,hR3,rfl,fun _=>rfl,?_,?_⟩
   ·simp[results,Tryz.results102,go_sem]
   ·exact OwnAt.low (OwnAt.but O2.out hbut HR2.o.2.1 (by decide)) (by rw[World.size_setCell];exact HK1.o.1)
   ·exact StepsIn.lower (I2.out.map fun _ _ o=>o.but hbut HR2.o.2.1) (by rw[World.size_setCell];exact HK1.o.1)
   ·exact((HG1.o.set hA0 _).trans HQ2.o).set hA0 _
   ·exact(((Keep2.ofKeep HK1.o).trans Keep2.set).trans (Keep2.ofGrew HQ2.o)).trans Keep2.set
  ·obtain rfl:T=[]:=List.isEmpty_iff.1 hb
   have hpl:Gr.plS getL (z,0)=([],S):=by
    unfold Gr.plS;rw[hS];simp only;rw[if_pos trivial]
   rw[hpl];clear hpl hS t4 t5;go_enter Tryz.func102,Tryz.ntmps102
   go_wp2_with (go_at_call 150;refine HW.o.mono ?_;rintro e w1 ⟨rfl,hr1,hg1,hk1⟩;obtain⟨hA1,hR1⟩:=RdAt.put (e:=er) H.o hr1 hk1;(have d1:=cell_of (o:=1) hA1);(have g1:=frozen_of (o:=1) hA1);(have pA1:=Pre.mk (heap_lt hA1));simp at d1;(have HR1:=hY hR1);(have HG1:=hY hg1);(have HK1:=hY hk1);clear hr1 hg1 hk1 hA1 hR1)
   go_ret;exact⟨_,[],(z',er),rfl,OwnAt.nil _,trivial,HR1.o,t2.symm,fun q=>by obtain⟨S1,S2⟩:=S;simp only at t2 t3 q ⊢;rw[t2,t3 q],HG1.o.set H.o.1 _,(Keep2.ofKeep HK1.o).trans Keep2.set⟩
 ·have hpl:Gr.plS getL (z,x)=([],(z,x)):=by
   have ht:Gr.txS 8000 (z,x)=([],(z,x)):=by
    unfold Gr.txS;rw[Gr.numS_err _ _ (s:=(z,x)) he];exact if_pos he
   unfold Gr.plS;rw[ht];exact if_pos rfl
  rw[hpl];have he2:(x != 0)=true:=by rw[bne_iff_ne];exact he
  clear h hg he;go_enter Tryz.func102,Tryz.ntmps102;go_wp2;go_ret;exact⟨_,[],(z,x),rfl,OwnAt.nil _,trivial,H.o,rfl,fun _=>rfl,HG.o,Keep2.refl _ _ _⟩
end Go.Proofs.YtipgfjihdglocaaGreat
