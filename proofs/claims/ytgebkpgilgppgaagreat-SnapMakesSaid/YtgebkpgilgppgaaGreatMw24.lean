import Derived.Test.YtgebkpgilgppgaaGreatMw21
import Derived.Test.YtgebkpgilgppgaaGreatMw9
import Derived.Test.YtgebkpgilgppgaaGreatMw15
import Derived.Test.YtgebkpgilgppgaaGreatMw18
import Derived.Test.YtgebkpgilgppgaaGreatMw20
import Derived.Test.YtgebkpgilgppgaaGreatMw19
import Derived.Lib.AppendStr
set_option linter.unusedSimpArgs false
set_option linter.unusedVariables false
set_option maxRecDepth 100000
set_option maxHeartbeats 64000000
namespace Go.Proofs.YtgebkpgilgppgaaGreat
open Go.RowKit Ga
def Ej(c:CV): List Value:=[.int .i64 c.node,.int .i64 c.ix,.int .i64 c.ep,.slice c.ae c.ne c.ce,.slice c.ax c.nx c.cx,.int .i64 c.off]
theorem EW(c:CV): (Ej c).length=6:=rfl
theorem Li(x:CV): ∀u∈Ej x,u.oneCell'=true:=by
 intro u hu;simp[Ej] at hu;rcases hu with rfl|rfl|rfl|rfl|rfl|rfl<;>rfl
abbrev J2(w:World)(v:Value)(l:List CV): Prop:=AX 6 Ej w v l
theorem J2.open6{w:World}{v:Value}{l:List CV}(h:J2 w v l): ∃a cap,v = .slice a l.length cap∧l.length≤9223372036854775807∧∀i (hi:i<l.length),∃b off,a=some ⟨b,off,none⟩∧Ad b w ∧
  w.cell? ⟨b,off+i*6,none⟩=some (.int .i64 l[i].node)∧w.cell? ⟨b,off+i*6+1,none⟩=some (.int .i64 l[i].ix)∧w.cell? ⟨b,off+i*6+2,none⟩=some (.int .i64 l[i].ep) ∧
  w.cell? ⟨b,off+i*6+3,none⟩=some (.slice l[i].ae l[i].ne l[i].ce)∧w.cell? ⟨b,off+i*6+4,none⟩=some (.slice l[i].ax l[i].nx l[i].cx)∧w.cell? ⟨b,off+i*6+5,none⟩=some (.int .i64 l[i].off):=by
 obtain⟨a,cap,rfl,hm,hx⟩:=h;refine⟨a,cap,rfl,by unfold maxLen at hm;omega,fun i hi=>?_⟩;obtain⟨b,off,rfl,hc⟩:=hx (by intro e;subst e;simp at hi);have hj:=fun j u=>hc i l[i] (List.getElem?_eq_getElem hi) j u
 have h0:=hj 0 _ rfl;exact⟨b,off,rfl,Ad.mk (World.block_lt_of_cell? w _ h0),h0,hj 1 _ rfl,hj 2 _ rfl,hj 3 _ rfl,hj 4 _ rfl,hj 5 _ rfl⟩
def Es(c:CV): Bool:=decide (60<c.ne)||decide (60<c.nx)
def GD(g:List Gr.Nd)(p:List Gr.Stp)(l:List CV): Bool:=(Cj g||Eo p)||(decide (60<l.length)||l.any Es)
theorem ZI{g:List Gr.Nd}{p:List Gr.Stp}{l:List CV}(h:GD g p l=false): (Cj g=false∧Eo p=false)∧l.length≤60∧∀c∈l,c.ne≤60∧c.nx≤60:=by
 unfold GD at h;simp only[Bool.or_eq_false_iff,decide_eq_false_iff_not,List.any_eq_false] at h;refine⟨h.1,by omega,fun c hc=>?_⟩;have:=h.2.2 c hc;unfold Es at this;simp at this;omega
theorem UI(v u vl:Value)(g:List Gr.Nd)(p:List Gr.Stp)(l:List CV)(w:World)(hv:AV w v g)(hu:BA w u p)(hl:J2 w vl l): Calls Tryz.prog 5 #[v,vl,u] w (Ac (.bool (GD g p l)) w):=by
 have HG:=hY fun W (q:AA w W)=>TB v u g p W (hv.grew q) (hu.grew q)
 have HL:=hY hl;obtain⟨a,cap,rfl,hm,-⟩:=J2.open6 hl;obtain⟨av,cv,rfl,-,-⟩:=hv.openC;obtain⟨au,cu,rfl,-,-⟩:=hu.openC;clear hv hu hl;cases hq:(Cj g||Eo p)
 case true =>
  have hb:GD g p l=true:=by unfold GD;rw[hq];rfl
  rw[hq] at HG;rw[hb];clear hq hb;go_enter Tryz.func5,Tryz.ntmps5
  go_wp2_with (go_at_call 22;refine(HG.o _ gw).mono ?_;rintro e w1 ⟨rfl,R1,n1,rfl⟩)
  go_ret;refine⟨rfl,?_⟩;exact gw
 by_cases h60:l.length≤60
 case neg =>
  have hb:GD g p l=true:=by unfold GD;rw[hq,decide_eq_true (show 60<l.length by omega)];rfl
  rw[hq] at HG;rw[hb];clear hq hb;go_enter Tryz.func5,Tryz.ntmps5
  go_wp2_with (go_at_call 22;refine(HG.o _ gw).mono ?_;rintro e w1 ⟨rfl,R1,n1,rfl⟩)
  go_ret;refine⟨rfl,?_⟩;exact gw
 have hb:GD g p l=l.any Es:=by unfold GD;rw[hq,decide_eq_false (show ¬60<l.length by omega)];rfl
 rw[hq] at HG;rw[hb];have HANY:=hY (List.any_eq_true (p:=Es) (l:=l));have HNON:=hY (List.any_eq_false (p:=Es) (l:=l));generalize l.any Es=r at *;clear hq hb;go_enter Tryz.func5,Tryz.ntmps5
 go_wp2_with (go_at_call 22;refine(HG.o _ gw).mono ?_;rintro e w1 ⟨rfl,R1,n1,rfl⟩)
 go_loopg [19] l.length (fun gg s19 wr=>∃k:Nat,k≤l.length∧l.length-k≤gg∧s19 = .int .i64 k∧Hid (AA w wr)∧Hid (∀j (hj:j<l.length),j<k→Es l[j]=false))
 case atStart=>exact⟨0,by omega,by omega,rfl,hY gw,hY fun j _ h=>by omega⟩
 case round =>
  obtain⟨k,hk,hgg,rfl,HGR,HNO⟩:=hrel;by_cases hlt:k<l.length
  ·obtain⟨a',cap',e,-,hx⟩:=J2.open6 (HL.o.grew HGR.o);cases e;obtain⟨b,off,rfl,hb,c0,c1,c2,c3,c4,c5⟩:=hx k hlt;have hmem:=List.getElem_mem hlt
   have hstep:Es l[k]=false→∀j (hj:j<l.length),j<k+1→Es l[j]=false:=fun h j hj h2=>by
    rcases Nat.lt_or_ge j k with h1|h1
    ·exact HNO.o j hj h1
    ·obtain rfl:j=k:=by omega
     exact h
   clear hx;generalize l[k]=y at *;obtain⟨nd,ix,ce,ae,ne,cae,ax,nx,cax,off⟩:=y;simp only at c0 c1 c2 c3 c4 c5;by_cases h1:ne≤60
   case neg =>
    have hr:r=true:=HANY.o.2 ⟨_,hmem,by unfold Es;simp;omega⟩;subst hr;clear hmem hstep;go_wp2;go_ret;exact⟨rfl,HGR.o.trans gw⟩
   by_cases h2:nx≤60
   case neg =>
    have hr:r=true:=HANY.o.2 ⟨_,hmem,by unfold Es;simp;omega⟩;subst hr;clear hmem hstep;go_wp2;go_ret;exact⟨rfl,HGR.o.trans gw⟩
   have HS:=hY (hstep (by unfold Es;simp;omega));clear hmem hstep;go_wp2
   go_roundg (l.length-(k+1))
   case measure=>omega
   case rel=>exact⟨k+1,by omega,by omega,by go_num,hY (HGR.o.trans gw),HS⟩
  ·obtain rfl:k=l.length:=by omega
   have hr:r=false:=by
    cases hr:r
    ·rfl
    ·obtain⟨x,hx,h⟩:=HANY.o.1 hr;obtain⟨i,hi,e⟩:=List.mem_iff_getElem.1 hx;have:=HNO.o i hi hi;rw[e,h] at this;cases this
   subst hr;go_wp2;go_ret;exact⟨rfl,HGR.o⟩
theorem BN.keep{W W':World}{x b n b2:Nat}{g:List Gr.Nd}{ep:Int}{m:List (Ca×CV)}(h:BN W x b n g ep m)(hk:A7 b2 W W')(h1:x≠b2)(h2:b≠b2)(hb:∀c t f,W.heap[b2]? ≠ some (.cells c t f)): BN W' x b n g ep m:=by
 obtain⟨v,q1,q2⟩:=h.cells;exact { h with cells:=⟨v,by rw[hk.2 x (AB q1) h1];exact q1,J9 q2 hk hb⟩,map:=h.map.same (hk.2 b h.map.lt h2) }
theorem BN.fresh{W:World}{x b n:Nat}{g:List Gr.Nd}{ep:Int}{m:List (Ca×CV)}(h:BN W x b n g ep m): x<W.heap.size∧b<W.heap.size:=by
 obtain⟨v,q1,-⟩:=h.cells;exact⟨AB q1,h.map.lt⟩
structure Fq where
 ents:List Tab.En
 lines:List Gr.Ln
 off:Int
def J8(W:World)(c:CV)(a:Fq): Prop:=c.off=a.off∧(∃b,OwnAt b 57 6 Ci W (.slice c.ae c.ne c.ce) a.ents)∧(∃b,OwnAt b 92 5 Dp W (.slice c.ax c.nx c.cx) a.lines)∧a.ents.length≤100∧a.lines.length≤100
theorem J8.grew{W W':World}{c:CV}{a:Fq}(h:J8 W c a)(g:AA W W'): J8 W' c a:=by
 obtain⟨h1,⟨b1,h2⟩,⟨b2,h3⟩,h4,h5⟩:=h;exact⟨h1,⟨b1,h2.grew g⟩,⟨b2,h3.grew g⟩,h4,h5⟩
def DF(W:World)(g:List Gr.Nd)(m:List (Ca×CV))(f:Ca→Fq): Prop:=∀t∈Af g,∃c,EM m t=some c∧J8 W c (f t)
def XY(r:Option Gr.Nd): Int:=match r with
 | some n=>n.kind
 | none=>0
def kindOf(g:List Gr.Nd)(id:Int): Int:=XY (Gr.nodeOf g id)
def Hw(g:List Gr.Nd)(f:Ca→Fq)(T:List Ca): List Int:=T.flatMap fun t=>if kindOf g t.1=0 then [(f t).off] else []
def Ll(g:List Gr.Nd)(f:Ca→Fq)(T:List Ca): List Gr.Ln:=T.flatMap fun t=>if kindOf g t.1=2 then (f t).lines else []
def Lm(g:List Gr.Nd)(f:Ca→Fq)(T:List Ca): List Tab.En:=T.flatMap fun t=>if kindOf g t.1=0∨kindOf g t.1=2 then [] else (f t).ents
theorem ZO{r:Option Gr.Nd}{w w':World}{e:Ending}(h:JI r w e w'): ∃c:BM,e = .returned (.tuple #[.agg #[.int .i64 c.id,.int .i64 c.kind,.slice c.af c.nf c.cf,.slice c.ap c.np c.cp,.int .i64 c.par,.int .i64 c.r0,.int .i64 c.r1,.int .i64 c.r2,.int .i64 c.r3,.int .i64 c.r4,.int .i64 c.r5,.int .i64 c.r6,.int .i64 c.r7],.bool r.isSome])∧c.kind=XY r∧AA w w':=by
 cases r with
 |none =>
  obtain⟨h1,h2⟩:=h
  exact⟨⟨0,0,none,0,0,none,0,0,0,0,0,0,0,0,0,0,0⟩,h1,rfl,h2⟩
 |some n =>
  obtain⟨c,h1,h2,-,h4⟩:=h;exact⟨c,h1,h2.kind.symm,h4⟩
structure JU (w W:World) (B:Nat) (ep:Int) (vO vX vE:Value) (os:List Int) (xs:List Gr.Ln) (es:List Tab.En) (vT:Value) (T:List Ca):Prop where
 g:AA w W
 hB:w.heap.size<B
 z:W.heap[w.heap.size]? = some (.cells #[.int .i64 0,.int .i64 0,.slice none 0 0,.slice none 0 0,.slice none 0 0,.slice none 0 0,.slice none 0 0] 42)
 blk:W.heap[B]? = some (.cells #[.int .i64 ep,.int .i64 0,vO,.slice none 0 0,.slice none 0 0,vX,.slice none 0 0] 42)
 o:OwnAt w.heap.size 3 1 Cx W vO os
 x:OwnAt w.heap.size 92 5 Dp W vX xs
 e:OwnAt w.heap.size 57 6 Ci W vE es
 t:OwnAt w.heap.size 106 2 Hd W vT T
theorem JU.grew{w W W':World}{B:Nat}{ep:Int}{vO vX vE:Value}{os:List Int}{xs:List Gr.Ln}{es:List Tab.En}{vT:Value}{T:List Ca}(h:JU w W B ep vO vX vE os xs es vT T)(q:AA W W'): JU w W' B ep vO vX vE os xs es vT T :=
 ⟨h.g.trans q,h.hB,AC q h.z,AC q h.blk,h.o.grew q,h.x.grew q,h.e.grew q,h.t.grew q⟩
theorem JU.addE{w W W':World}{B:Nat}{ep:Int}{vO vX vE v':Value}{os:List Int}{xs:List Gr.Ln}{es l:List Tab.En}{vT:Value}{T:List Ca}(h:JU w W B ep vO vX vE os xs es vT T)(hA:Ap w 57 6 Ci W vE (es++l) v' W'): JU w W' B ep vO vX v' os xs (es++l) vT T:=by
 obtain⟨a1,a2,a3,a4,a5⟩:=hA;refine⟨a1,h.hB,by rw[a4 _ (AB h.z) (OwnAt.other h.e h.z (by decide))];exact h.z,by rw[a4 B (AB h.blk) (OwnAt.other h.e h.blk (by decide))];exact h.blk,OwnAt.same h.o fun b hb=>?_,OwnAt.same h.x fun b hb=>?_,a2,OwnAt.same h.t fun b hb=>?_⟩
 ·obtain⟨-,cs,hc⟩:=OwnAt.block h.o hb;exact a4 b (AB hc) (OwnAt.other h.e hc (by decide))
 ·obtain⟨-,cs,hc⟩:=OwnAt.block h.x hb;exact a4 b (AB hc) (OwnAt.other h.e hc (by decide))
 ·obtain⟨-,cs,hc⟩:=OwnAt.block h.t hb;exact a4 b (AB hc) (OwnAt.other h.e hc (by decide))
theorem JU.addO{w W W':World}{B:Nat}{ep:Int}{vO vX vE v':Value}{os l:List Int}{xs:List Gr.Ln}{es:List Tab.En}{vT:Value}{T:List Ca}(h:JU w W B ep vO vX vE os xs es vT T)(hA:Ap w 3 1 Cx W vO (os++l) v' W'): JU w (W'.setCell ⟨B,2,none⟩ v') B ep v' vX vE (os++l) xs es vT T:=by
 obtain⟨a1,a2,a3,a4,a5⟩:=hA;have hb:W'.heap[B]? = some (.cells #[.int .i64 ep,.int .i64 0,vO,.slice none 0 0,.slice none 0 0,vX,.slice none 0 0] 42):=by rw[a4 B (AB h.blk) (OwnAt.other h.o h.blk (by decide))];exact h.blk
 have st:∀{α:Type} {t:TypeId} {k:Nat} {enc:α→List Value} {v:Value} {l:List α},OwnAt w.heap.size t k enc W' v l→t≠42→OwnAt w.heap.size t k enc (W'.setCell ⟨B,2,none⟩ v') v l:=fun {α t k enc v l} ho hne =>
  OwnAt.same ho fun b hb2=>AQ fun e=>OwnAt.other ho hb (fun q=>hne q.symm) (e▸hb2)
 refine⟨a1.set (Nat.le_of_lt h.hB) _,h.hB,by rw[AQ (by have:=h.hB;omega),a4 _ (AB h.z) (OwnAt.other h.o h.z (by decide))];exact h.z,by rw[set_self hb];rfl,st a2 (by decide),st (OwnAt.same h.x fun b hb=>?_) (by decide),st (OwnAt.same h.e fun b hb=>?_) (by decide),st (OwnAt.same h.t fun b hb=>?_) (by decide)⟩
 ·obtain⟨-,cs,hc⟩:=OwnAt.block h.x hb;exact a4 b (AB hc) (OwnAt.other h.o hc (by decide))
 ·obtain⟨-,cs,hc⟩:=OwnAt.block h.e hb;exact a4 b (AB hc) (OwnAt.other h.o hc (by decide))
 ·obtain⟨-,cs,hc⟩:=OwnAt.block h.t hb;exact a4 b (AB hc) (OwnAt.other h.o hc (by decide))
theorem JU.addX{w W W':World}{B:Nat}{ep:Int}{vO vX vE v':Value}{os:List Int}{xs l:List Gr.Ln}{es:List Tab.En}{vT:Value}{T:List Ca}(h:JU w W B ep vO vX vE os xs es vT T)(hA:Ap w 92 5 Dp W vX (xs++l) v' W'): JU w (W'.setCell ⟨B,5,none⟩ v') B ep vO v' vE os (xs++l) es vT T:=by
 obtain⟨a1,a2,a3,a4,a5⟩:=hA;have hb:W'.heap[B]? = some (.cells #[.int .i64 ep,.int .i64 0,vO,.slice none 0 0,.slice none 0 0,vX,.slice none 0 0] 42):=by rw[a4 B (AB h.blk) (OwnAt.other h.x h.blk (by decide))];exact h.blk
 have st:∀{α:Type} {t:TypeId} {k:Nat} {enc:α→List Value} {v:Value} {l:List α},OwnAt w.heap.size t k enc W' v l→t≠42→OwnAt w.heap.size t k enc (W'.setCell ⟨B,5,none⟩ v') v l:=fun {α t k enc v l} ho hne =>
  OwnAt.same ho fun b hb2=>AQ fun e=>OwnAt.other ho hb (fun q=>hne q.symm) (e▸hb2)
 refine⟨a1.set (Nat.le_of_lt h.hB) _,h.hB,by rw[AQ (by have:=h.hB;omega),a4 _ (AB h.z) (OwnAt.other h.x h.z (by decide))];exact h.z,by rw[set_self hb];rfl,st (OwnAt.same h.o fun b hb=>?_) (by decide),st a2 (by decide),st (OwnAt.same h.e fun b hb=>?_) (by decide),st (OwnAt.same h.t fun b hb=>?_) (by decide)⟩
 ·obtain⟨-,cs,hc⟩:=OwnAt.block h.o hb;exact a4 b (AB hc) (OwnAt.other h.x hc (by decide))
 ·obtain⟨-,cs,hc⟩:=OwnAt.block h.e hb;exact a4 b (AB hc) (OwnAt.other h.x hc (by decide))
 ·obtain⟨-,cs,hc⟩:=OwnAt.block h.t hb;exact a4 b (AB hc) (OwnAt.other h.x hc (by decide))
theorem JU.blkA{α:Type}{t:TypeId}{k:Nat}{enc:α→List Value}{w W W':World}{B:Nat}{ep:Int}{vO vX vE:Value}{os:List Int}{xs:List Gr.Ln}{es:List Tab.En}{vT:Value}{T:List Ca}{v v':Value}{l0 l:List α}(h:JU w W B ep vO vX vE os xs es vT T)(ho:OwnAt w.heap.size t k enc W v l0)(hne:42≠t)(henc:∀x,(enc x).length=k)(hA:Ap w t k enc W v l v' W'):
  W'.heap[B]? = some (.cells #[.int .i64 ep,.int .i64 0,vO,.slice none 0 0,.slice none 0 0,vX,.slice none 0 0] 42)∧W'.cell? ⟨B,2,none⟩=some vO∧W'.cell? ⟨B,5,none⟩=some vX∧W'.frozen? ⟨B,2,none⟩=false∧W'.frozen? ⟨B,5,none⟩=false∧Ad B W'∧∃a c,v' = .slice a l.length c:=by
 obtain⟨a1,a2,a3,a4,a5⟩:=hA;have hb:W'.heap[B]? = some (.cells #[.int .i64 ep,.int .i64 0,vO,.slice none 0 0,.slice none 0 0,vX,.slice none 0 0] 42):=by rw[a4 B (AB h.blk) (OwnAt.other ho h.blk hne)];exact h.blk
 exact⟨hb,(cell_of hb).trans rfl,(cell_of hb).trans rfl,AJ hb,AJ hb,Ad.mk (AB hb),(OwnAt.rows a2 henc).len⟩
theorem X6(id kd par r0 r1 r2 r3 r4 r5 r6 r7:Int)(af ap:Option Addr)(nf cf np cp:Nat)(reset:Bool)(s:Gr.Stp)(w:World)(hn:Ai w ⟨2,⟨id,kd,af,nf,cf,ap,np,cp,par,r0,r1,r2,r3,r4,r5,r6,r7⟩,reset⟩ s)(hs:s.nd.frm.length≤1000∧s.nd.prog.length≤1000): Calls Tryz.prog 40 #[.agg #[.int .i64 2,.int .i64 id,.int .i64 kd,.slice af nf cf,.slice ap np cp,.int .i64 par,.int .i64 r0,.int .i64 r1,.int .i64 r2,.int .i64 r3,.int .i64 r4,.int .i64 r5,.int .i64 r6,.int .i64 r7,.bool reset]] w (Cr (Gr.cleanS s) w):=by
 have hcl:=hn.clean;have HCL:=hY hcl;have HN:=hY hn;have H1:=hY fun W (g:AA w W)=>CZ _ s.nd.frm W (HN.o.nd.f.grew g) hs.1
 have H2:=hY fun W (g:AA w W)=>Cs _ s.nd.prog W (HN.o.nd.p.grew g) hs.2
 have HND:=hY hn.nd;have HS:=hY hs;have HK:=hY hn.kind;clear hn hcl hs;go_enter Tryz.func40,Tryz.ntmps40
 go_wp2_with (go_at_call 27;refine(Zu _ s.nd _ (AV.one (HND.o.grew gw) _ (by simp[World.size_alloc]) _ rfl) HS.o).mono ?_;rintro e w1 ⟨b,cap,c,rfl,hb,hn1,ho1,hg1,k0,k1,k2,k3,k4,k5,k6,k7,k8,k9,k10,k11,k12⟩;obtain⟨q0,q1,qa,qc,qp,qq,q2,q3,q4,q5,q6,q7,q8,q9,q10,rfl⟩:=hn1.lit;simp only at k0 k1 k2 k3 k4 k5 k6 k7 k8 k9 k10 k11 k12;(have HN1:=hY hn1);(have HO1:=hY ho1);obtain⟨R1,n1,rfl⟩:=hg1;clear hn1 ho1)
 refine bodyPost_ret (D6 rfl (AC ((AA.refl _).more _ _) (Ag (Ag (Ag (AO (w.alloc _) _ _ (by simp[World.size_alloc])) _) _) _))) rfl ?_;refine SI (c:=⟨q0,q1,qa,s.nd.frm.length,qc,qp,s.nd.prog.length,qq,q2,q3,q4,q5,q6,q7,q8,q9,q10⟩) HK.o ?_ ?_ ?_
 ·exact Ab.is (Ab.to HO1.o (fun b hb _=>Bc (by simp[World.size_alloc]) _ _ _ hb)) HN1.o
 ·exact Ab.low (Ab.to HO1.o (fun b hb _=>Bc (by simp[World.size_alloc]) _ _ _ hb)) (by simp[World.size_alloc];omega)
 ·exact gw
theorem A4p(w0 W:World)(B b n cap i:Nat)(lc:List BM)(l:List Gr.Nd)(st:Bw)(s:Gr.Stp)(h:Cu w0 W B (.slice (some ⟨b,0,none⟩) n cap) lc l st s (i:Int))(hi:i<l.length)(hl:l.length≤100)(hkd:s.kind=1): Calls Tryz.prog 140 #[.pointer (some ⟨B,0,none⟩)] W (Ip w0 B st s (i:Int) (Kk l i l[i] s) W):=by
 have hlen:=BL.len h.inn;have hic:i<lc.length:=by omega
 have hsk:=h.stp.kind;obtain⟨c,hc⟩:∃c,lc[i]? = some c:=⟨_,List.getElem?_eq_getElem hic⟩;obtain⟨hni,hno⟩:=BL.get h.inn i c l[i] hc (List.getElem?_eq_getElem hi);have hnk:=hni.kind;have hnid:=hni.id;have H:=hY h;have HC:=hY hc;have HNI:=hY hni;have HNO:=hY hno;obtain⟨hnl,hbb,hlc2,hcm,cur,hcur,_,_⟩:=OwnAt.cells h.own;have hni2:(i:Int)<(n:Int):=by omega
 have hi0:¬((i:Int)<0):=by omega
 have pBn:∀q,Ad B (W.drewN q):=fun q=>Ad.mk (AB h.blk)
 have pbn:∀q,Ad b (W.drewN q):=fun q=>Ad.mk (AB hcur)
 have hwr:IntKind.i64.wrap ((i:Int)+1)=(i:Int)+1:=IntWalk.i64_in _ (by omega);have pb:=Ad.mk (AB hcur);have HCUR:=hY hcur;have HBB:=hY hbb;have HNL:Hid (n=lc.length∧i<lc.length∧lc.length≤100∧lc.length=l.length):=hY ⟨hnl,hic,by omega,hlen⟩;have k0:=Av (j:=0) h.own hc (by decide);have k1:=Av (j:=1) h.own hc (by decide);simp[Ae] at k0 k1;have x0:=cell_of (o:=0) h.blk;have x1:=cell_of (o:=1) h.blk;have x16:=cell_of (o:=16) h.blk;have pB:=Ad.mk (AB h.blk);obtain⟨kd,⟨id,kind,af,nf,cf,ap,np,cp,par,r0,r1,r2,r3,r4,r5,r6,r7⟩,rs⟩:=st;simp[RS,CS] at x0 x1 x16;simp only at hsk;rw[hsk] at hkd;subst hkd;have he:Kk l i l[i] s=Iq l i l[i] s:=if_pos hsk;rw[he];have HSW:=hY fun W2 (g:AA W W2)=>A07 w0 W2 B b n cap i lc l _ s (i:Int) (h.grew g) hi
 generalize Iq l i l[i] s=rr at *;clear h hlen hic hc hni hno hcur hbb hnl hlc2 hcm he hnk hnid;go_enter Tryz.func140,Tryz.ntmps140
 go_upto_region 3 with fail
 go_quiet (fail)
 go_wp2_with (go_at_call 160;refine(HSW.o _ gw).mono ?_;rintro e w1 ⟨rfl,hw1,hg1⟩;(have HW1:=hY hw1);(have HG1:=hY hg1);clear hw1 hg1)
 go_ret;exact⟨rfl,HW1.o,HG1.o⟩
theorem A4q(w0 W:World)(B b n cap i:Nat)(lc:List BM)(l:List Gr.Nd)(st:Bw)(s:Gr.Stp)(h:Cu w0 W B (.slice (some ⟨b,0,none⟩) n cap) lc l st s (i:Int))(hi:i<l.length)(hl:l.length≤100)(hkd:s.kind=5): Calls Tryz.prog 140 #[.pointer (some ⟨B,0,none⟩)] W (Ip w0 B st s (i:Int) (Kk l i l[i] s) W):=by
 have hlen:=BL.len h.inn;have hic:i<lc.length:=by omega
 have hsk:=h.stp.kind;obtain⟨c,hc⟩:∃c,lc[i]? = some c:=⟨_,List.getElem?_eq_getElem hic⟩;obtain⟨hni,hno⟩:=BL.get h.inn i c l[i] hc (List.getElem?_eq_getElem hi);have hnk:=hni.kind;have hnid:=hni.id;have H:=hY h;have HC:=hY hc;have HNI:=hY hni;have HNO:=hY hno;obtain⟨hnl,hbb,hlc2,hcm,cur,hcur,_,_⟩:=OwnAt.cells h.own;have hni2:(i:Int)<(n:Int):=by omega
 have hi0:¬((i:Int)<0):=by omega
 have pBn:∀q,Ad B (W.drewN q):=fun q=>Ad.mk (AB h.blk)
 have pbn:∀q,Ad b (W.drewN q):=fun q=>Ad.mk (AB hcur)
 have hwr:IntKind.i64.wrap ((i:Int)+1)=(i:Int)+1:=IntWalk.i64_in _ (by omega);have pb:=Ad.mk (AB hcur);have HCUR:=hY hcur;have HBB:=hY hbb;have HNL:Hid (n=lc.length∧i<lc.length∧lc.length≤100∧lc.length=l.length):=hY ⟨hnl,hic,by omega,hlen⟩;have k0:=Av (j:=0) h.own hc (by decide);have k1:=Av (j:=1) h.own hc (by decide);simp[Ae] at k0 k1;have x0:=cell_of (o:=0) h.blk;have x1:=cell_of (o:=1) h.blk;have x4:=cell_of (o:=4) h.blk;have x16:=cell_of (o:=16) h.blk;have pB:=Ad.mk (AB h.blk);obtain⟨kd,⟨id,kind,af,nf,cf,ap,np,cp,par,r0,r1,r2,r3,r4,r5,r6,r7⟩,rs⟩:=st;simp[RS,CS] at x0 x1 x4 x16;simp only at hsk;rw[hsk] at hkd;subst hkd;have he:Kk l i l[i] s=if l[i].kind≠2 then (11,[]) else (0,l.set i { l[i] with frm:=s.nd.frm }):=by unfold Kk;rw[if_neg (by omega),if_neg (by omega),if_neg (by omega)]
 rw[he];clear he;by_cases h2:l[i].kind≠2
 ·rw[if_pos h2];have hne:(c.kind != 2)=true:=by rw[bne_iff_ne,←hnk];exact h2
  clear h hlen hic hc hni hno hcur hbb hnl hlc2 hcm h2 hnk hnid;go_enter Tryz.func140,Tryz.ntmps140
  go_upto_region 3 with fail
  go_quiet (fail)
  go_wp2;go_ret;exact⟨rfl,fun q=>absurd q (by decide),H.o.g.trans gw⟩
 ·rw[if_neg h2];have hne:(c.kind != 2)=false:=by rw[←hnk];simpa using h2
  have f2:=AJ (o:=i*13+2) hcur;have k2:=Av (j:=2) h.own hc (by decide);simp[Ae] at k2;have hw:=fun W2 (q:AA W W2)=>(h.grew q).set5 hc hi
  simp only at hw;have HW:=hY hw;clear h hlen hic hc hni hno hcur hbb hnl hlc2 hcm h2 hnk hnid hw;go_enter Tryz.func140,Tryz.ntmps140
  go_upto_region 3 with fail
  go_quiet (fail)
  go_wp2;go_ret;refine⟨rfl,?_,?_⟩
  ·intro _;exact⟨_,_,HW.o _ gw⟩
  ·exact(HW.o _ gw).g
end Go.Proofs.YtgebkpgilgppgaaGreat
