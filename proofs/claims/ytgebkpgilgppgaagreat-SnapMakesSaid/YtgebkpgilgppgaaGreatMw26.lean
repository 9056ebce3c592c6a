import Derived.Test.YtgebkpgilgppgaaGreatMw25
import Derived.Test.YtgebkpgilgppgaaGreatMw21
import Derived.Test.YtgebkpgilgppgaaGreatMw12
import Derived.Deep.QuietTactic
import Derived.BigQuiet
set_option linter.unusedSimpArgs false
set_option linter.unusedVariables false
set_option maxRecDepth 100000
set_option maxHeartbeats 64000000
namespace Go.Proofs.YtgebkpgilgppgaaGreat
open Go.RowKit Ga
open Classical in
noncomputable def Gl(s t:Gr.Stp): Bool:=decide (s=t)
open Classical in
theorem NA{s t:Gr.Stp}: Gl s t=(decide (s.kind=t.kind)&&(s.reset==t.reset&&ER s.nd t.nd)):=by
 obtain⟨k1,n1,r1⟩:=s;obtain⟨k2,n2,r2⟩:=t;unfold Gl ER;simp only[Gr.Stp.mk.injEq];by_cases h1:k1=k2<;>by_cases h2:n1=n2<;>by_cases h3:r1=r2<;>simp[h1,h2,h3]
theorem Pf(c d:Bw)(s t:Gr.Stp)(w:World)(hn:Ai w c s)(hm:Ai w d t)(hs:s.nd.frm.length≤1000∧s.nd.prog.length≤1000)(ht:t.nd.frm.length≤1000∧t.nd.prog.length≤1000): Calls Tryz.prog 72 #[.agg #[.int .i64 c.kind,.int .i64 c.c.id,.int .i64 c.c.kind,.slice c.c.af c.c.nf c.c.cf,.slice c.c.ap c.c.np c.c.cp,.int .i64 c.c.par,.int .i64 c.c.r0,.int .i64 c.c.r1,.int .i64 c.c.r2,.int .i64 c.c.r3,.int .i64 c.c.r4,.int .i64 c.c.r5,.int .i64 c.c.r6,.int .i64 c.c.r7,.bool c.reset],.agg #[.int .i64 d.kind,.int .i64 d.c.id,.int .i64 d.c.kind,.slice d.c.af d.c.nf d.c.cf,.slice d.c.ap d.c.np d.c.cp,.int .i64 d.c.par,.int .i64 d.c.r0,.int .i64 d.c.r1,.int .i64 d.c.r2,.int .i64 d.c.r3,.int .i64 d.c.r4,.int .i64 d.c.r5,.int .i64 d.c.r6,.int .i64 d.c.r7,.bool d.reset]] w (Ac (.bool (Gl s t)) w):=by
 have HEQ:=hY (NA (s:=s) (t:=t));have HN:=hY hn.nd;have HM:=hY hm.nd;have e1:=hn.kind;have e2:=hn.reset;have g1:=hm.kind;have g2:=hm.reset;have HSS:=hY hs;have HTT:=hY ht;obtain⟨kd,rs,id,kind,af,cf,ap,cp,par,r0,r1,r2,r3,r4,r5,r6,r7,rfl⟩:=hn.lit;obtain⟨kd2,rs2,id2,kind2,af2,cf2,ap2,cp2,par2,s0,s1,s2,s3,s4,s5,s6,s7,rfl⟩:=hm.lit;simp only at e1 e2 g1 g2;rw[e1,e2,g1,g2] at HEQ;clear hn hm e1 e2 g1 g2 hs ht;generalize Gl s t=q at *;by_cases h1:kd=kd2
 case neg =>
  have hq:q=false:=by rw[HEQ.o,decide_eq_false h1];rfl
  have HQ:=hY hq;have h1b:(kd==kd2)=false:=by simpa using h1
  clear h1 hq;go_enter Tryz.func72,Tryz.ntmps72;go_wp2;go_ret;exact⟨by rw[HQ.o];rfl,gw⟩
 subst h1;by_cases h2:rs=rs2
 case neg =>
  have hq:q=false:=by rw[HEQ.o,beq_eq_false_iff_ne.2 h2];simp
  have HQ:=hY hq;have h2b:(rs==rs2)=false:=beq_eq_false_iff_ne.2 h2;clear h2 hq;go_enter Tryz.func72,Tryz.ntmps72;go_wp2;go_ret;exact⟨by rw[HQ.o];rfl,gw⟩
 subst h2;cases hq2:ER s.nd t.nd
 ·have hq:q=false:=by rw[HEQ.o,hq2];simp
  have HQ:=hY hq;have HQ2:=hY hq2;clear hq hq2;go_enter Tryz.func72,Tryz.ntmps72
  go_wp2_with (go_at_call 42;refine Calls.mono (Ky _ _ s.nd t.nd _ ?_ ?_ HSS.o HTT.o) ?_;(focus(refine AV.grew ?_ ((AA.refl _).alloc _);exact AV.one (HN.o.grew gw) _ (by simp[World.size_alloc]) _ rfl));(focus exact AV.one (HM.o.grew gw) _ (by simp[World.size_alloc]) _ rfl);rintro e w1 ⟨rfl,R1,n1,rfl⟩;rw[HQ2.o])
  go_ret;exact⟨by rw[HQ.o];rfl,gw⟩
 ·have hq:q=true:=by rw[HEQ.o,hq2];simp
  have HQ:=hY hq;have HQ2:=hY hq2;clear hq hq2;go_enter Tryz.func72,Tryz.ntmps72
  go_wp2_with (go_at_call 42;refine Calls.mono (Ky _ _ s.nd t.nd _ ?_ ?_ HSS.o HTT.o) ?_;(focus(refine AV.grew ?_ ((AA.refl _).alloc _);exact AV.one (HN.o.grew gw) _ (by simp[World.size_alloc]) _ rfl));(focus exact AV.one (HM.o.grew gw) _ (by simp[World.size_alloc]) _ rfl);rintro e w1 ⟨rfl,R1,n1,rfl⟩;rw[HQ2.o])
  go_ret;exact⟨by rw[HQ.o];rfl,gw⟩
theorem PV{W W':World}{a:Addr}{u:Value}(g:AA W W')(h:W.cell? a=some u): W'.cell? a=some u:=Ei g.below a u h
theorem Zp(k:Int): -8<k.tmod 8∧k.tmod 8<8∧(k.tmod 8)%8=k%8:=by
 rw[Int.tmod_eq_emod];split<;>simp<;>omega
theorem A36(k:Int): (k.tmod 8+8).tmod 8=k%8:=by
 obtain⟨h1,h2,h3⟩:=Zp k;rw[Int.tmod_eq_emod_of_nonneg (by omega)];omega
theorem Xn(k:Int)(w:World): Calls Tryz.prog 164 #[.int .i64 k] w fun e w'=>e = .returned (.int .i64 (k%8))∧w=w':=by
 obtain⟨h1,h3,-⟩:=Zp k;have h2:=A36 k;go_enter Tryz.func164,Tryz.ntmps164;go_wp2;go_ret;exact⟨rfl,rfl⟩
theorem SB(n k nd:Int)(gs:List Int)(vg:Value)(B1 B2:Nat)(W:World)(h1:W.cell? ⟨B1,0,none⟩=some (.int .i64 nd))(h2:W.cell? ⟨B2,0,none⟩=some vg)(hgs:BO W vg gs):
  Calls Tryz.prog 163 #[.agg #[.int .i64 n,.int .i64 k],.pointer (some ⟨B1,0,none⟩),.pointer (some ⟨B2,0,none⟩)] W (Ac (.bool (Jj nd gs ⟨n,k,(0,0),(0,0)⟩)) W):=by
 have HC:=hY fun W2 (g:AA W W2)=>Dr vg gs (k%8) W2 (hgs.grew g)
 have p1:=Ad.ofCell h1;have p2:=Ad.ofCell h2;obtain⟨ag,cg,rfl⟩:=hgs.len;clear hgs;by_cases hn:n=nd
 ·subst hn;have hb:Jj n gs ⟨n,k,(0,0),(0,0)⟩=decide (k%8∈gs):=by unfold Jj;simp
  rw[hb];clear hb;go_enter Tryz.func163,Tryz.ntmps163;go_wp2
  go_quiet (first|(go_at_call 164;refine Calls.quiet_of_same ((Xn _ _).mono fun e w' h=>⟨h.1,h.2.symm⟩))|(go_at_call 59;refine Calls.quiet_of_same (HC.o _ gw)))
  go_wp2;go_ret;exact⟨rfl,gw⟩
 ·have hb:Jj nd gs ⟨n,k,(0,0),(0,0)⟩=false:=by unfold Jj;simp[hn]
  rw[hb];clear hb;go_enter Tryz.func163,Tryz.ntmps163;go_wp2
  go_quiet (fail)
  go_wp2;go_ret;exact⟨rfl,gw⟩
theorem Oe(W:World)(t b n:Nat)(m:List Tab.En)(hT:Au W t b n m)(nd:Int)(gs:List Int)(vg:Value)(B1 B2:Nat)(hB1:W.cell? ⟨B1,0,none⟩=some (.int .i64 nd))(hB2:W.cell? ⟨B2,0,none⟩=some vg)(hgs:BO W vg gs): Calls Tryz.prog 82 #[.pointer (some ⟨t,0,none⟩),.func (.func 163) #[] #[.pointer (some ⟨B1,0,none⟩),.pointer (some ⟨B2,0,none⟩)]] W (Mo (m.filter (Jj nd gs)) W):=by
 have tc:=cell_of (o:=0) hT.1;simp at tc;have pt:=Ad.mk (AB hT.1);obtain⟨D,ho,hD⟩:=hT.2;have HO:=hY ho;have HD:=hY hD;have hbW:=ho.lt;have HAS:=hY fun n k W2 (g:AA W W2)=>SB n k nd gs vg B1 B2 W2 (PV g hB1) (PV g hB2) (hgs.grew g)
 clear hT ho hD hB1 hB2 hgs;go_enter Tryz.func82,Tryz.ntmps82
 go_wp2_with (at_range;refine wpList_range_own _ rfl (.tmp 13) 178 rfl 157 52 Cz Tryz.underlying178 ceR b n D rfl HO.o ?_;intro W1 hr1 hg1 hs1;(have HR1:=hY hr1);(have HG1:=hY ((AA.refl W).grown hg1 fun q hq=>by cases hq));clear hr1 hg1 hs1)
 go_simp
 go_loopg [5] (Maps.size D) (fun gg s5 wr=>∃(left:Lit→Bool) (cnt:Nat) (lo:List Tab.En) (vk:Value),cnt≤gg∧vk=s5∧Hid (OwnAt W.heap.size 57 6 Ci wr vk (lo.filter (Jj nd gs)))∧Hid (Ea wr b W.heap.size n D left cnt)∧Hid (AA W wr)∧Hid (Seen D m lo left))
 case atStart=>exact⟨_,_,[],_,Nat.le_refl _,rfl,hY (OwnAt.nil _),HR1,HG1,hY (Seen.start HD.o)⟩
 case round =>
  obtain⟨left,cnt,lo,vk,hgg,rfl,HOW,HRG,HG,HS⟩:=hrel;have h512:=Um (fun x hx=>HD.o.there x (HS.o.sub x hx)) HS.o.un;have hfl:=List.length_filter_le (Jj nd gs) lo;obtain⟨ak,ck,rfl⟩:=(OwnAt.rows HOW.o Az).len
  go_wp2_with (at_next;go_loud (refine wpList_next_ranges _ rfl (.tmp 14) rfl 157 Cz ceR (fun x:Int×Int=>L9 x.1 x.2) (fun c:Val×Val=>Xl c.1 c.2) PT Wi b W.heap.size n D left cnt rfl HRG.o ?_ ?_))
  ·intro hc0 hl0;have hp:=HS.o.done HD.o hl0;have HP:=hY hp;clear hc0 hl0 hp
   go_wp2_with (go_at_call 114;refine(KM W.heap.size _ _ (lo.filter (Jj nd gs)) (OwnAt.grew HOW.o gw) (fun x hx=>HD.o.there x (HS.o.sub x (List.mem_filter.1 hx).1)) (by omega)).mono ?_;rintro e w3 ⟨rfl,l',q1,q2,q3,q4,q5,q6⟩;(have Q1:=hY q1);(have Q2:=hY q2);(have Q3:=hY q3);(have Q6:=hY (q6 W (HG.o.trans gw) (Nat.le_refl _)));clear q1 q2 q3 q4 q5 q6)
   go_ret;exact⟨_,l',rfl,Q1.out,Q2.out.trans (HP.o.filter _),Q3.out,Q6.out⟩
  ·intro n' k' p0 q0 p1 q1 kl y1 y2 W1 cnt1 hkk hlk hRy hat hrg1 hlt hg1 hs1 hen;have HS1:=hY (HS.o.next HD.o hkk hlk hRy hat);have HG1:=hY (HG.o.grown hg1 fun q hq=>by cases hq;exact Nat.le_refl _);have HO1:Hid (OwnAt W.heap.size 57 6 Ci W1 (.slice ak (lo.filter (Jj nd gs)).length ck) (lo.filter (Jj nd gs))):=hY (OwnAt.same HOW.o fun q hq=>hg1.block q (by obtain⟨_,cs,hc⟩:=OwnAt.block HOW.o hq;exact AB hc) (fun e=>(Fu HRG.o HOW.o).2 (by rw[hq,e])));have HRG1:=hY hrg1;unfold L9 Xl at hen ⊢;clear hkk hlk hRy hat hrg1 hg1 hs1;cases hof:Jj nd gs ⟨n',k',(p0,q0),(p1,q1)⟩
   ·have HFL:Hid ((lo++[(⟨n',k',(p0,q0),(p1,q1)⟩:Tab.En)]).filter (Jj nd gs)=lo.filter (Jj nd gs)):=hY (by rw[List.filter_append,List.filter_cons,hof];simp);have HOF:Hid (Jj nd gs ⟨n',k',(0,0),(0,0)⟩=false):=hY hof;clear hof
    go_wp2_with (go_at_call 163;refine(HAS.o _ _ _ (HG1.o.trans gw)).mono ?_;rintro e w3 ⟨rfl,R3,n3,rfl⟩;rw[HOF.o])
    go_roundg cnt1
    case measure=>omega
    case rel=>exact⟨_,cnt1,_,_,Nat.le_refl _,rfl,hY (by rw[HFL.o];exact OwnAt.grew HO1.o gw),hY (Gh HRG1.o gw),hY (HG1.o.trans gw),HS1⟩
   ·have HFL:Hid ((lo++[(⟨n',k',(p0,q0),(p1,q1)⟩:Tab.En)]).filter (Jj nd gs)=lo.filter (Jj nd gs)++[(⟨n',k',(p0,q0),(p1,q1)⟩:Tab.En)]):=hY (by rw[List.filter_append,List.filter_cons,hof];simp);have HOF:Hid (Jj nd gs ⟨n',k',(0,0),(0,0)⟩=true):=hY hof;clear hof
    go_wp2_with (first
     | (go_at_call 163;refine(HAS.o _ _ _ (HG1.o.trans gw)).mono ?_;rintro e w3 ⟨rfl,R3,n3,rfl⟩;rw[HOF.o])
     | (at_builtin;go_loud (refine Am (w0:=W) rfl (.tmp 23) (.tmp 30) 23 _ _ _ _ [⟨n',k',(p0,q0),(p1,q1)⟩] rfl Tryz.underlying23 Mv rfl (by decide) Az E5 rfl (OwnAt.grew HO1.o gw) (HG1.o.trans gw) rfl (Wj _ _ _ _ rfl (by simp[go_sem])) (by simp;omega) (by decide) (by simp) ?_;intro v5 W5 hA;(have HA:=hY hA);clear hA)))
    have HR5:=hY (L6 (Gh HRG1.o gw) (OwnAt.grew HO1.o gw) HA.o)
    go_roundg cnt1
    case measure=>omega
    case rel=>exact⟨_,cnt1,_,_,Nat.le_refl _,rfl,hY (by rw[HFL.o];exact HA.o.2.1),HR5,hY HA.o.1,HS1⟩
theorem Xo(W:World)(t b n:Nat)(m:List Tab.En)(hT:Au W t b n m)(nd:Int)(gs:List Int)(vg:Value)(hgs:BO W vg gs): Calls Tryz.prog 141 #[.pointer (some ⟨t,0,none⟩),.int .i64 nd,vg] W (Mo (m.filter (Jj nd gs)) W):=by
 have HT:=hY hT;have HGS:=hY hgs;obtain⟨ag,cg,rfl⟩:=hgs.len;clear hT hgs;go_enter Tryz.func141,Tryz.ntmps141
 go_wp2_with (go_at_call 82;go_loud (refine(Oe _ t b n m (HT.o.grew gw) nd gs _ _ _ (by simp[go_sem]) (by simp[go_sem]) (HGS.o.grew gw)).mono ?_);rintro e w1 ⟨v,s,rfl,h1,h2,h3,h4⟩;obtain⟨ak,ck,rfl⟩:=(OwnAt.rows h1 Az).len;(have H1:=hY h1);(have H2:=hY h2);(have H3:=hY h3);(have H4:=hY h4);clear h1 h2 h3 h4)
 go_ret;exact⟨_,s,rfl,OwnAt.low H1.o (by simp[World.size_alloc];omega),H2.o,H3.o,AA.trans gw H4.o⟩
theorem PW{n k:Int}(h:CW n k=true)(v:Val): CF ⟨n,k,v,v⟩:=(EQ (x:=⟨n,k,v,v⟩)).1 h
theorem Mk.found{D:DataW Unit}{m:List Tab.En}(h:Mk D m){n k:Int}(ht:CW n k=true){kl:Lit}(hk:keyOf Tryz.prog 157 (L9 n k)=some kl): D.atKey kl (KL (0,0) (0,0))=KL (Dv m n k).1 (Dv m n k).2:=by
 rcases EN m n k with ⟨x,hx,h1,h2⟩|⟨h1,h2⟩
 ·rw[h2];obtain⟨e1,e2⟩:=((h.there x hx).inj (PW ht x.c0)).1 (h1.trans rfl);simp only at e1 e2;exact(h.at' x hx kl (by rw[e1,e2];exact hk)).2 _
 ·rw[h2];cases hh:Maps.has D kl
  ·exact Maps.atKey_of_not_has hh _
  ·obtain⟨x,hx,hxk⟩:=h.has kl hh;obtain⟨e1,e2⟩:=Qd (Cz.inj hxk hk);exact absurd (by unfold Tab.num;rw[e1,e2]) (h1 x hx)
theorem zeroCells(w:World): (zeroValue 52).run Tryz.prog w = .ok (Xl (0,0) (0,0)) w:=by kernel_rfl
theorem TabAt.look{W:World}{b n:Nat}{m:List Tab.En}(h:TabAt W b n m){nd k:Int}(ht:CW nd k=true):
  (Instr.lookup 178 (.map (some b)) (L9 nd k) false).run Tryz.prog W = .ok (Xl (Dv m nd k).1 (Dv m nd k).2) W:=by
 obtain⟨D,ho,hD⟩:=h;obtain⟨kl,hk⟩:=(PW ht (0,0)).kl;obtain⟨v,ps,hr,hR⟩:=World.ownsMap.lookup ho Cz Tryz.underlying178 (zeroCells W) (Zn (0,0) (0,0)) hk;rw[hD.found ht hk] at hR;obtain⟨c,hv,hd⟩:=Wl hR;injection hd with hd1 _
 obtain⟨e1,e2⟩:=PU hd1;rw[hr,hv,←e1,←e2]
theorem Uo{α:Type}{k:Nat}{enc:α→List Value}{w w':World}{v:Value}{l:List α}{b:Nat}(h:AX k enc w v l)(hk:A7 b w w')(hb:∀c t f,w.heap[b]? ≠ some (.cells c t f)): AX k enc w' v l:=by
 obtain⟨a,cap,rfl,hm,hx⟩:=h;refine⟨a,cap,rfl,hm,fun hne=>?_⟩;obtain⟨q,off,rfl,hc⟩:=hx hne;refine⟨q,off,rfl,fun i x hi j u hu=>?_⟩;have h1:=hc i x hi j u hu;have h2:=World.block_lt_of_cell? w _ h1
 have hq:q≠b:=by
  rintro rfl;unfold World.cell? at h1;split at h1
  ·rename_i e
   exact hb _ _ _ e
  ·cases h1
 unfold World.cell? at h1 ⊢;simp only at h1 h2 ⊢;rw[hk.2 q h2 hq];exact h1
theorem TabAt.nocells{W:World}{b n:Nat}{m:List Tab.En}(h:TabAt W b n m): ∀c t f,W.heap[b]? ≠ some (.cells c t f):=by
 obtain⟨D,⟨es,c,h1,-⟩,-⟩:=h;intro c t f e;rw[h1] at e;cases e
theorem Au.keep{W W':World}{t b b2 n:Nat}{m:List Tab.En}(h:Au W t b n m)(hk:A7 b2 W W')(h1:t≠b2)(h2:b≠b2): Au W' t b n m :=
 ⟨by rw[hk.2 t (AB h.1) h1];exact h.1,h.2.same (hk.2 b h.2.lt h2)⟩
theorem Au.put{W W':World}{t b n n':Nat}{m m':List Tab.En}(h:Au W t b n m)(hk:A7 b W W')(hm:TabAt W' b n' m'): Au W' t b n' m' :=
 ⟨by rw[hk.2 t (AB h.1) h.ne];exact h.1,hm⟩
def JV(m l:List Tab.En): List Tab.En:=l.foldl (fun m x=>m.filter fun y=>Tab.num y != Tab.num x) m
theorem Uq{m l:List Tab.En}{k:Nat}(hk:k<l.length): JV m (l.take (k+1))=(JV m (l.take k)).filter fun y=>Tab.num y != Tab.num l[k]:=by
 unfold JV;rw[List.take_succ_eq_append_getElem hk,List.foldl_append];rfl
theorem PX:∀{l m:List Tab.En} {y:Tab.En},y∈JV m l↔y∈m∧∀x∈l,Tab.num y≠Tab.num x
 | [],m,y=>by unfold JV;simp
 |x::l,m,y=>by
  have:JV m (x::l)=JV (m.filter fun y=>Tab.num y != Tab.num x) l:=rfl;rw[this,PX,List.mem_filter];simp only[bne_iff_ne,List.mem_cons,forall_eq_or_imp,and_assoc]
theorem PY:∀(l m:List Tab.En),(JV m l).Sublist m
 | [],m=>List.Sublist.refl _
 | x::l,m=>(PY l (m.filter fun y=>Tab.num y != Tab.num x)).trans List.filter_sublist
theorem SC{α:Type}: ∀{a b m:List α},a.Sublist m→b.Sublist m→m.Nodup→(∀x,x∈a↔x∈b)→a=b
 |[],b,_,_,_,_,h=>by
  cases b with
  | nil=>rfl
  | cons x b=>exact absurd ((h x).2 (List.mem_cons_self ..)) (by simp)
 | x::a,[],_,_,_,_,h=>absurd ((h x).1 (List.mem_cons_self ..)) (by simp)
 |x::a,y::b,m,ha,hb,hn,h=>by
  induction m with
  | nil=>cases ha
  |cons z m ih =>
   obtain⟨hz,hm⟩:=List.nodup_cons.1 hn;by_cases hxz:x=z
   ·subst hxz;by_cases hyx:y=x
    ·subst hyx;have ha':=(List.cons_sublist_cons.1 ha);have hb':=(List.cons_sublist_cons.1 hb)
     rw[SC ha' hb' hm fun u=>by
      constructor
      ·intro hu;rcases List.mem_cons.1 ((h u).1 (List.mem_cons_of_mem _ hu)) with rfl|h2
       ·exact absurd (ha'.subset hu) hz
       ·exact h2
      ·intro hu;rcases List.mem_cons.1 ((h u).2 (List.mem_cons_of_mem _ hu)) with rfl|h2
       ·exact absurd (hb'.subset hu) hz
       ·exact h2]
    ·exfalso
     have hb':(y::b).Sublist m:=by
      cases hb with
      | cons _ h=>exact h
      | cons_cons _ h=>exact absurd rfl hyx
     exact hz (hb'.subset ((h x).1 (List.mem_cons_self ..)))
   ·have ha':(x::a).Sublist m:=by
     cases ha with
     | cons _ h=>exact h
     | cons_cons _ h=>exact absurd rfl hxz
    by_cases hyz:y=z
    ·exfalso;subst hyz;exact hz (ha'.subset ((h y).2 (List.mem_cons_self ..)))
    ·have hb':(y::b).Sublist m:=by
      cases hb with
      | cons _ h=>exact h
      | cons_cons _ h=>exact absurd rfl hyz
     exact ih ha' hb' hm
theorem Zq{m s:List Tab.En}{p:Tab.En→Bool}(hu:UnE m)(hs:s.Perm (m.filter p)): JV m s=m.filter fun x=> !p x:=by
 have hn:m.Nodup:=by
  rw[List.nodup_iff_pairwise_ne];exact hu.imp fun h e=>h (by rw[e])
 refine SC (PY s m) List.filter_sublist hn fun y=>?_
 rw[PX,List.mem_filter];constructor
 ·rintro⟨h1,h2⟩;refine⟨h1,?_⟩;cases hp:p y
  ·rfl
  ·exact absurd rfl (h2 y (hs.mem_iff.2 (List.mem_filter.2 ⟨h1,hp⟩)))
 ·rintro⟨h1,h2⟩;refine⟨h1,fun x hx e=>?_⟩;obtain⟨h3,h4⟩:=List.mem_filter.1 (hs.mem_iff.1 hx);rw[We hu h1 h3 e,h4] at h2;cases h2
def Zr(w0 W:World)(t b n:Nat)(m:List Tab.En)(e:Ending)(W':World): Prop:=e = .returned (.tuple #[])∧Au W' t b n m∧AA w0 W'∧A7 b W W'
theorem SE(w0 W:World)(t b n:Nat)(m:List Tab.En)(hT:Au W t b n m)(hu:GI m)(hg:AA w0 W)(hb:w0.heap.size≤b)(nd:Int)(gs:List Int)(vg:Value)(hgs:BO W vg gs):
  Calls Tryz.prog 112 #[.pointer (some ⟨t,0,none⟩),.int .i64 nd,vg] W (Zr w0 W t b n (m.filter fun x=> !Jj nd gs x)):=by
 have HT:=hY hT;have HU:=hY hu;have HG:=hY hg;have HGS:=hY hgs;obtain⟨ag,cg,rfl⟩:=hgs.len;have hlen:=Um hu.there hu.un;have hfl:=List.length_filter_le (Jj nd gs) m;have tc:=cell_of (o:=0) hT.1;simp at tc;have pt:=Ad.mk (AB hT.1);have HNE:=hY hT.ne;have HBW:=hY hT.2.lt;clear hT hu hg hgs;go_enter Tryz.func112,Tryz.ntmps112
 go_wp2_with (go_at_call 141;go_loud (refine(Xo _ t b n m (HT.o.grew gw) nd gs _ (HGS.o.grew gw)).mono ?_);rintro e w1 ⟨v,s,rfl,h1,h2,h3,h4⟩;obtain⟨asl,cs,rfl⟩:=(OwnAt.rows h1 Az).len;(have HS:=hY (OwnAt.rows h1 Az));(have HP:=hY h2);(have HG1:=hY h4);(have HSL:=hY h2.length_eq);clear h1 h2 h3 h4)
 have hsb:s.length≤512:=by rw[HSL.o];omega
 have HSM:Hid (∀x∈s,Jj nd gs x=true∧x∈m):=hY fun x hx=>let q:=List.mem_filter.1 (HP.o.mem_iff.1 hx);⟨q.2,q.1⟩
 have HT1:=hY (HT.o.grew HG1.o)
 go_loopg [13] s.length (fun gg s13 wr=>∃k:Nat,k≤s.length∧s.length-k≤gg∧s13 = .int .i64 k∧Hid (Au wr t b n (JV m (s.take k)))∧Hid (AA w0 wr)∧Hid (A7 b w1 wr))
 case atStart=>exact⟨0,by omega,by omega,rfl,HT1,hY (HG.o.trans HG1.o),hY (A7.ofGrew (AA.refl _))⟩
 case round =>
  obtain⟨k,hk,hgg,rfl,HTR,HGR,HKR⟩:=hrel;by_cases hlt:k<s.length
  ·have hrows:Bp wr (.slice asl s.length cs) s:=Uo HS.o HKR.o (fun c t f=>TabAt.nocells HT1.o.2 c t f);obtain⟨a',cap',e,-,hx⟩:=Bp.open6 hrows;cases e;obtain⟨q,off,rfl,hq,c0,c1,c2,c3,c4,c5⟩:=hx k hlt;have HNS:=hY (Uq (m:=m) hlt);obtain⟨h1,h2⟩:=HSM.o s[k] (List.getElem_mem hlt);have hth:=HU.o.there _ h2;have hnd:s[k].node=nd:=by unfold Jj at h1;simp at h1;exact h1.1
   clear hx hrows h1 h2;generalize s[k]=x at *;obtain⟨xn,ky,⟨p0,q0⟩,⟨p1,q1⟩⟩:=x;simp only at c0 c1 c2 c3 c4 c5 hnd;subst hnd;have HTH:=hY hth;have tcr:=cell_of (o:=0) HTR.o.1;simp at tcr;have ptr:=Ad.mk (AB HTR.o.1);clear hth;go_wp2;refine AY 8 Tryz.mixed (by kernel_rfl) (by kernel_rfl) ?_
   iterate 8
    apply Ch.val
    focus
     rintro w1 u ⟨R1,n1,rfl⟩ hF;simp[AR,AU.more,Oper.deps,Region.binds,List.filter_cons,World.more_drew] at hF;simp[AL,Oper.deps,Region.binds,List.filter_cons,Region.dstOf,AU.at,Act.put,World.more_drew];go_wp2;exact⟨gw,rfl,_,_,rfl,rfl,rfl⟩
   rintro u w1 ⟨R1,n1,rfl⟩ hF;clear hF;simp[AL,Region.dstOf,AU.at,Act.put,List.range_succ,World.more_drew];refine JW (w0:=w0) rfl (.tmp 20) (.tmp 24) rfl (HGR.o.trans gw) hb rfl (HTR.o.2.grew gw) ⟨xn,ky,(p0,q0),(p1,q1)⟩ HTH.o rfl ?_;intro W5 h5 g5 k5;have H5:=hY h5;have G5:=hY g5;have K5:=hY k5;clear h5 g5 k5;go_wp2
   go_roundg (s.length-(k+1))
   case measure=>omega
   case rel=>exact⟨k+1,by omega,by omega,by go_num,hY ⟨by rw[K5.out.2 t (by have:=AB HTR.o.1;simp[go_sem];omega) HNE.o];exact(HTR.o.grew gw).1,by rw[HNS.o];exact H5.o⟩,G5,hY (HKR.o.trans ((A7.ofGrew gw).trans K5.out))⟩
  ·obtain rfl:k=s.length:=by omega
   have hT:=HTR.o;rw[List.take_length,Zq HU.o.un HP.o] at hT;have HT9:=hY hT;clear hT;go_wp2;refine bodyPost_ret (v:=.tuple #[]) (by simp[results,Tryz.results112,go_sem]) rfl ?_;exact⟨rfl,HT9.o,HGR.o,(A7.ofGrew HG1.o).trans HKR.o⟩
end Go.Proofs.YtgebkpgilgppgaaGreat
