import Derived.Test.YtipgfjihdglocaaGreatCq0
import Derived.Test.YtipgfjihdglocaaGreatCq4
import Derived.Test.YtipgfjihdglocaaGreatCq5
import Derived.Deep.LoopGhost
import Derived.Deep.DeepCutAuto
import Derived.Deep.QuietTactic
import Derived.BigQuiet
import Derived.RegionTactic
import Derived.Laws.OwnMore
import Derived.Laws.CopyOwn
import Derived.Deep.CutBlock
import Derived.Deep.RegionHeld3
set_option linter.unusedSimpArgs false
set_option linter.unusedVariables false
set_option maxRecDepth 100000
set_option maxHeartbeats 64000000
namespace Go.Proofs.YtipgfjihdglocaaGreat
open Go.RowKit Ga
abbrev IntsAt(w:World)(v:Value)(l:List Int): Prop:=RowsAt 1 (fun x=>[Value.int .i64 x]) w v l
structure NdC where
 id:Int
 kind:Int
 af:Option Addr
 nf:Nat
 cf:Nat
 ap:Option Addr
 np:Nat
 cp:Nat
 par:Int
 r0:Int
 r1:Int
 r2:Int
 r3:Int
 r4:Int
 r5:Int
 r6:Int
 r7:Int
instance:Inhabited NdC:=⟨⟨0,0,none,0,0,none,0,0,0,0,0,0,0,0,0,0,0⟩⟩
abbrev NdC.vf(c:NdC): Value:=.slice c.af c.nf c.cf
abbrev NdC.vp(c:NdC): Value:=.slice c.ap c.np c.cp
def encNd(n:NdC): List Value:=[.int .i64 n.id,.int .i64 n.kind,.slice n.af n.nf n.cf,.slice n.ap n.np n.cp,.int .i64 n.par,.int .i64 n.r0,.int .i64 n.r1,.int .i64 n.r2,.int .i64 n.r3,.int .i64 n.r4,.int .i64 n.r5,.int .i64 n.r6,.int .i64 n.r7]
theorem encNd_len(n:NdC): (encNd n).length=13:=rfl
structure NodeIs (w:World) (c:NdC) (n:Gr.Nd):Prop where
 id:n.id=c.id
 kind:n.kind=c.kind
 f:IntsAt w c.vf n.frm
 p:ValsAt w c.vp n.prog
 par:n.par=c.par
 route:n.route=[c.r0,c.r1,c.r2,c.r3,c.r4,c.r5,c.r6,c.r7]
 fc:n.frm.length≤c.cf
theorem NodeIs.grew{w w':World}{c:NdC}{n:Gr.Nd}(h:NodeIs w c n)(g:Grew w w'): NodeIs w' c n :=
 { h with f:=h.f.grew g,p:=h.p.grew g }
theorem IntsAt.one{w:World}{v:Value}{l:List Int}(h:IntsAt w v l): v.oneCell'=true:=by
 obtain⟨a,cap,rfl,-⟩:=h;rfl
theorem ValsAt.one{w:World}{v:Value}{l:List Val}(h:ValsAt w v l): v.oneCell'=true:=by
 obtain⟨a,cap,rfl,-⟩:=h;rfl
theorem encNd_one(c:NdC): ∀u∈encNd c,u.oneCell'=true:=by
 intro u hu;simp[encNd] at hu;rcases hu with rfl|rfl|rfl|rfl|rfl|rfl|rfl|rfl|rfl|rfl|rfl|rfl|rfl<;>rfl
theorem NodeIs.lit{w:World}{c:NdC}{n:Gr.Nd}(h:NodeIs w c n): ∃id kind af cf ap cp par r0 r1 r2 r3 r4 r5 r6 r7,c=⟨id,kind,af,n.frm.length,cf,ap,n.prog.length,cp,par,r0,r1,r2,r3,r4,r5,r6,r7⟩:=by
 obtain⟨id,kind,af,nf,cf,ap,np,cp,par,r0,r1,r2,r3,r4,r5,r6,r7⟩:=c;obtain⟨af',cf',e1⟩:=h.f.len;obtain⟨ap',cp',e2⟩:=h.p.len;simp only[NdC.vf,NdC.vp] at e1 e2;cases e1;cases e2;exact⟨id,kind,_,_,_,_,par,r0,r1,r2,r3,r4,r5,r6,r7,rfl⟩
def NodesAt(w:World)(v:Value)(l:List Gr.Nd): Prop:=∃lc:List NdC,RowsAt 13 encNd w v lc∧lc.length=l.length∧∀(i:Nat) (c:NdC) (n:Gr.Nd),lc[i]? = some c→l[i]? = some n→NodeIs w c n
theorem NodesAt.grew{w w':World}{v:Value}{l:List Gr.Nd}(h:NodesAt w v l)(g:Grew w w'): NodesAt w' v l:=by
 obtain⟨lc,h1,h2,h3⟩:=h;exact⟨lc,h1.grew g,h2,fun i c n hc hn=>(h3 i c n hc hn).grew g⟩
theorem NodeIs.r8{w:World}{c:NdC}{n:Gr.Nd}(h:NodeIs w c n): n.route.length=8:=by rw[h.route];rfl
theorem NodesAt.r8{w:World}{v:Value}{l:List Gr.Nd}(h:NodesAt w v l): ∀n∈l,n.route.length=8:=by
 obtain⟨lc,h1,h2,h3⟩:=h;intro n hn;obtain⟨i,hi,e⟩:=List.mem_iff_getElem.1 hn;exact(h3 i _ n (List.getElem?_eq_getElem (by omega)) (by rw[List.getElem?_eq_getElem hi,e])).r8
theorem NodesAt.openC{w:World}{v:Value}{l:List Gr.Nd}(h:NodesAt w v l): ∃a cap,v = .slice a l.length cap∧l.length≤9223372036854775807∧∀i (hi:i<l.length),∃b off c,a=some ⟨b,off,none⟩∧Pre b w∧NodeIs w c l[i] ∧
  w.cell? ⟨b,off+i*13,none⟩=some (.int .i64 c.id)∧w.cell? ⟨b,off+i*13+1,none⟩=some (.int .i64 c.kind)∧w.cell? ⟨b,off+i*13+2,none⟩=some (.slice c.af c.nf c.cf)∧w.cell? ⟨b,off+i*13+3,none⟩=some (.slice c.ap c.np c.cp)∧w.cell? ⟨b,off+i*13+4,none⟩=some (.int .i64 c.par) ∧
  w.cell? ⟨b,off+i*13+5,none⟩=some (.int .i64 c.r0)∧w.cell? ⟨b,off+i*13+6,none⟩=some (.int .i64 c.r1)∧w.cell? ⟨b,off+i*13+7,none⟩=some (.int .i64 c.r2)∧w.cell? ⟨b,off+i*13+8,none⟩=some (.int .i64 c.r3)∧w.cell? ⟨b,off+i*13+9,none⟩=some (.int .i64 c.r4)∧w.cell? ⟨b,off+i*13+10,none⟩=some (.int .i64 c.r5)∧w.cell? ⟨b,off+i*13+11,none⟩=some (.int .i64 c.r6)∧w.cell? ⟨b,off+i*13+12,none⟩=some (.int .i64 c.r7):=by
 obtain⟨lc,⟨a,cap,rfl,hm,hx⟩,h2,h3⟩:=h;refine⟨a,cap,by rw[h2],by unfold maxLen at hm;omega,fun i hi=>?_⟩;have hi':i<lc.length:=by omega
 obtain⟨b,off,rfl,hc⟩:=hx (by intro e;subst e;simp at hi');have hn:=h3 i lc[i] l[i] (List.getElem?_eq_getElem hi') (List.getElem?_eq_getElem hi);have hj:=fun j u=>hc i lc[i] (List.getElem?_eq_getElem hi') j u
 have h0:=hj 0 _ rfl;exact⟨b,off,lc[i],rfl,Pre.mk (World.block_lt_of_cell? w _ h0),hn,h0,hj 1 _ rfl,hj 2 _ rfl,hj 3 _ rfl,hj 4 _ rfl,hj 5 _ rfl,hj 6 _ rfl,hj 7 _ rfl,hj 8 _ rfl,hj 9 _ rfl,hj 10 _ rfl,hj 11 _ rfl,hj 12 _ rfl⟩
theorem NodesAt.open'{w:World}{v:Value}{l:List Gr.Nd}(h:NodesAt w v l): ∃a cap,v = .slice a l.length cap∧l.length≤9223372036854775807∧∀i (hi:i<l.length),∃b off vf vp,a=some ⟨b,off,none⟩∧Pre b w∧IntsAt w vf l[i].frm∧ValsAt w vp l[i].prog ∧
  w.cell? ⟨b,off+i*13,none⟩=some (.int .i64 l[i].id)∧w.cell? ⟨b,off+i*13+1,none⟩=some (.int .i64 l[i].kind)∧w.cell? ⟨b,off+i*13+2,none⟩=some vf∧w.cell? ⟨b,off+i*13+3,none⟩=some vp∧w.cell? ⟨b,off+i*13+4,none⟩=some (.int .i64 l[i].par) ∧
  ∀g,g<8→w.cell? ⟨b,off+i*13+5+g,none⟩=some (.int .i64 (l[i].route.getD g 0)):=by
 obtain⟨a,cap,rfl,hm,hx⟩:=h.openC;refine⟨a,cap,rfl,hm,fun i hi=>?_⟩;obtain⟨b,off,c,rfl,hb,hn,c0,c1,c2,c3,c4,c5,c6,c7,c8,c9,c10,c11,c12⟩:=hx i hi;refine⟨b,off,c.vf,c.vp,rfl,hb,hn.f,hn.p,by rw[hn.id];exact c0,by rw[hn.kind];exact c1,c2,c3,by rw[hn.par];exact c4,fun g hg=>?_⟩;rw[hn.route];rcases (show g=0∨g=1∨g=2∨g=3∨g=4∨g=5∨g=6∨g=7 by omega) with rfl|rfl|rfl|rfl|rfl|rfl|rfl|rfl
 ·exact c5
 ·exact c6
 ·exact c7
 ·exact c8
 ·exact c9
 ·exact c10
 ·exact c11
 ·exact c12
theorem NodesAt.open13{w:World}{v:Value}{l:List Gr.Nd}(h:NodesAt w v l): ∃a cap,v = .slice a l.length cap∧l.length≤9223372036854775807∧∀i (hi:i<l.length),∃b off vf vp,a=some ⟨b,off,none⟩∧Pre b w∧IntsAt w vf l[i].frm∧ValsAt w vp l[i].prog ∧
  w.cell? ⟨b,off+i*13,none⟩=some (.int .i64 l[i].id)∧w.cell? ⟨b,off+i*13+1,none⟩=some (.int .i64 l[i].kind)∧w.cell? ⟨b,off+i*13+2,none⟩=some vf∧w.cell? ⟨b,off+i*13+3,none⟩=some vp∧w.cell? ⟨b,off+i*13+4,none⟩=some (.int .i64 l[i].par) ∧
  w.cell? ⟨b,off+i*13+5,none⟩=some (.int .i64 (l[i].route.getD 0 0))∧w.cell? ⟨b,off+i*13+6,none⟩=some (.int .i64 (l[i].route.getD 1 0))∧w.cell? ⟨b,off+i*13+7,none⟩=some (.int .i64 (l[i].route.getD 2 0))∧w.cell? ⟨b,off+i*13+8,none⟩=some (.int .i64 (l[i].route.getD 3 0)) ∧
  w.cell? ⟨b,off+i*13+9,none⟩=some (.int .i64 (l[i].route.getD 4 0))∧w.cell? ⟨b,off+i*13+10,none⟩=some (.int .i64 (l[i].route.getD 5 0))∧w.cell? ⟨b,off+i*13+11,none⟩=some (.int .i64 (l[i].route.getD 6 0))∧w.cell? ⟨b,off+i*13+12,none⟩=some (.int .i64 (l[i].route.getD 7 0)):=by
 obtain⟨a,cap,rfl,hm,hx⟩:=h.open';refine⟨a,cap,rfl,hm,fun i hi=>?_⟩;obtain⟨b,off,vf,vp,e,hb,hf,hp,c0,c1,c2,c3,c4,cr⟩:=hx i hi;exact⟨b,off,vf,vp,e,hb,hf,hp,c0,c1,c2,c3,c4,cr 0 (by decide),cr 1 (by decide),cr 2 (by decide),cr 3 (by decide),cr 4 (by decide),cr 5 (by decide),cr 6 (by decide),cr 7 (by decide)⟩
def findI(l:List Gr.Nd)(id:Int): Int:=match Gr.find l id with
 | some i=>i
 | none=>-1
theorem ints_open{w:World}{v:Value}{l:List Int}(h:IntsAt w v l): ∃a cap,v = .slice a l.length cap∧l.length≤9223372036854775807∧∀i (hi:i<l.length),∃b off,a=some ⟨b,off,none⟩∧Pre b w∧w.cell? ⟨b,off+i,none⟩=some (.int .i64 l[i]):=by
 obtain⟨a,cap,rfl,hm,hl⟩:=h;refine⟨a,cap,rfl,by unfold maxLen at hm;omega,fun i hi=>?_⟩;obtain⟨b,off,rfl,hx⟩:=hl (by intro e;subst e;simp at hi);have h0:=hx i l[i] (List.getElem?_eq_getElem hi) 0 _ rfl;rw[Nat.mul_one,Nat.add_zero] at h0;exact⟨b,off,rfl,Pre.mk (World.block_lt_of_cell? w _ h0),h0⟩
structure StC where
 kind:Int
 c:NdC
 reset:Bool
instance:Inhabited StC:=⟨⟨0,default,false⟩⟩
def encSt(s:StC): List Value:=[.int .i64 s.kind,.int .i64 s.c.id,.int .i64 s.c.kind,.slice s.c.af s.c.nf s.c.cf,.slice s.c.ap s.c.np s.c.cp,.int .i64 s.c.par,.int .i64 s.c.r0,.int .i64 s.c.r1,.int .i64 s.c.r2,.int .i64 s.c.r3,.int .i64 s.c.r4,.int .i64 s.c.r5,.int .i64 s.c.r6,.int .i64 s.c.r7,.bool s.reset]
theorem encSt_len(s:StC): (encSt s).length=15:=rfl
theorem encSt_one(c:StC): ∀u∈encSt c,u.oneCell'=true:=by
 intro u hu;simp[encSt] at hu;rcases hu with rfl|rfl|rfl|rfl|rfl|rfl|rfl|rfl|rfl|rfl|rfl|rfl|rfl|rfl|rfl<;>rfl
structure StepIs (w:World) (c:StC) (s:Gr.Stp):Prop where
 kind:s.kind=c.kind
 nd:NodeIs w c.c s.nd
 reset:s.reset=c.reset
theorem StepIs.grew{w w':World}{c:StC}{s:Gr.Stp}(h:StepIs w c s)(g:Grew w w'): StepIs w' c s:={ h with nd:=h.nd.grew g }
def StepsAt(w:World)(v:Value)(l:List Gr.Stp): Prop:=∃lc:List StC,RowsAt 15 encSt w v lc∧lc.length=l.length∧∀(i:Nat) (c:StC) (s:Gr.Stp),lc[i]? = some c→l[i]? = some s→StepIs w c s
theorem StepsAt.grew{w w':World}{v:Value}{l:List Gr.Stp}(h:StepsAt w v l)(g:Grew w w'): StepsAt w' v l:=by
 obtain⟨lc,h1,h2,h3⟩:=h;exact⟨lc,h1.grew g,h2,fun i c n hc hn=>(h3 i c n hc hn).grew g⟩
theorem StepsAt.nil(w:World): StepsAt w (.slice none 0 0) []:=⟨[],RowsAt.nil,rfl,fun i c n h=>by simp at h⟩
theorem StepsAt.r8{w:World}{v:Value}{l:List Gr.Stp}(h:StepsAt w v l): ∀s∈l,s.nd.route.length=8:=by
 obtain⟨lc,-,h2,h3⟩:=h;intro n hn;obtain⟨i,hi,rfl⟩:=List.mem_iff_getElem.1 hn;rw[(h3 i lc[i] l[i] (List.getElem?_eq_getElem (by omega)) (List.getElem?_eq_getElem hi)).nd.route];rfl
theorem StepsAt.openC{w:World}{v:Value}{l:List Gr.Stp}(h:StepsAt w v l): ∃a cap,v = .slice a l.length cap∧l.length≤9223372036854775807∧∀i (hi:i<l.length),∃b off c,a=some ⟨b,off,none⟩∧Pre b w∧StepIs w c l[i] ∧
  w.cell? ⟨b,off+i*15,none⟩=some (.int .i64 c.kind) ∧
  w.cell? ⟨b,off+i*15+1,none⟩=some (.int .i64 c.c.id) ∧
  w.cell? ⟨b,off+i*15+2,none⟩=some (.int .i64 c.c.kind) ∧
  w.cell? ⟨b,off+i*15+3,none⟩=some (.slice c.c.af c.c.nf c.c.cf) ∧
  w.cell? ⟨b,off+i*15+4,none⟩=some (.slice c.c.ap c.c.np c.c.cp) ∧
  w.cell? ⟨b,off+i*15+5,none⟩=some (.int .i64 c.c.par) ∧
  w.cell? ⟨b,off+i*15+6,none⟩=some (.int .i64 c.c.r0) ∧
  w.cell? ⟨b,off+i*15+7,none⟩=some (.int .i64 c.c.r1) ∧
  w.cell? ⟨b,off+i*15+8,none⟩=some (.int .i64 c.c.r2) ∧
  w.cell? ⟨b,off+i*15+9,none⟩=some (.int .i64 c.c.r3) ∧
  w.cell? ⟨b,off+i*15+10,none⟩=some (.int .i64 c.c.r4) ∧
  w.cell? ⟨b,off+i*15+11,none⟩=some (.int .i64 c.c.r5) ∧
  w.cell? ⟨b,off+i*15+12,none⟩=some (.int .i64 c.c.r6) ∧
  w.cell? ⟨b,off+i*15+13,none⟩=some (.int .i64 c.c.r7) ∧
  w.cell? ⟨b,off+i*15+14,none⟩=some (.bool c.reset):=by
 obtain⟨lc,⟨a,cap,rfl,hm,hx⟩,h2,h3⟩:=h;refine⟨a,cap,by rw[h2],by unfold maxLen at hm;omega,fun i hi=>?_⟩;have hi':i<lc.length:=by omega
 obtain⟨b,off,rfl,hc⟩:=hx (by intro e;subst e;simp at hi');have hn:=h3 i lc[i] l[i] (List.getElem?_eq_getElem hi') (List.getElem?_eq_getElem hi);have hj:=fun j u=>hc i lc[i] (List.getElem?_eq_getElem hi') j u
 have h0:=hj 0 _ rfl;exact⟨b,off,lc[i],rfl,Pre.mk (World.block_lt_of_cell? w _ h0),hn,h0,hj 1 _ rfl,hj 2 _ rfl,hj 3 _ rfl,hj 4 _ rfl,hj 5 _ rfl,hj 6 _ rfl,hj 7 _ rfl,hj 8 _ rfl,hj 9 _ rfl,hj 10 _ rfl,hj 11 _ rfl,hj 12 _ rfl,hj 13 _ rfl,hj 14 _ rfl⟩
theorem StepIs.lit{w:World}{c:StC}{s:Gr.Stp}(h:StepIs w c s): ∃kind reset id kd af cf ap cp par r0 r1 r2 r3 r4 r5 r6 r7,c=⟨kind,⟨id,kd,af,s.nd.frm.length,cf,ap,s.nd.prog.length,cp,par,r0,r1,r2,r3,r4,r5,r6,r7⟩,reset⟩:=by
 obtain⟨kind,c,reset⟩:=c;obtain⟨id,kd,af,cf,ap,cp,par,r0,r1,r2,r3,r4,r5,r6,r7,e⟩:=h.nd.lit;simp only at e;subst e;exact⟨_,_,_,_,_,_,_,_,_,_,_,_,_,_,_,_,_,rfl⟩
theorem NodesAt.one{w:World}{c:NdC}{n:Gr.Nd}(h:NodeIs w c n)(k:Nat)(hk:k=w.heap.size)(cs:List Value)(hcs:cs=encNd c): NodesAt (w.alloc (.cells cs.toArray 52)) (.slice (some ⟨k,0,none⟩) 1 1) [n]:=by
 refine⟨[c],RowsAt.fresh (l:=[c]) rfl (by simp[maxLen]) encNd_len hk (by rw[hcs];simp),rfl,?_⟩;intro i c' n' h1 h2
 match i with
 |0 =>
  cases h1;cases h2
  exact h.grew ((Grew.refl _).alloc _)
 | i+1=>cases h1
theorem findI_none{l:List Gr.Nd}{id:Int}(h:Gr.find l id=none): findI l id = -1:=by unfold findI;rw[h]
theorem findI_some{l:List Gr.Nd}{id:Int}{i:Nat}(h:Gr.find l id=some i): findI l id=i∧i<l.length:=by
 obtain⟨m,hm,-⟩:=Gr.find_some h;exact⟨by unfold findI;rw[h],(List.getElem?_eq_some_iff.1 hm).1⟩
theorem eqInts_any(v u:Value)(l m:List Int)(w:World)(hv:IntsAt w v l)(hu:IntsAt w u m): Calls Tryz.prog 69 #[v,u] w (Gives (.bool (decide (l=m))) w):=by
 have HV:=hY hv;have HU:=hY hu;obtain⟨a,cap,rfl,hm,-⟩:=ints_open hv;obtain⟨a2,cap2,rfl,hm2,-⟩:=ints_open hu;clear hv hu;by_cases hlen:l.length=m.length
 ·have hD2:((l.length:Int) != (m.length:Int))=false:=by rw[hlen];simp
  have HLEN:=hY hlen;clear hlen;go_enter Tryz.func69,Tryz.ntmps69;go_wp2
  go_loopg [13] l.length (fun gg s13 wr=>∃g:Nat,g≤l.length∧l.length-g≤gg∧s13 = .int .i64 g∧Hid (Grew w wr)∧Hid (l.take g=m.take g))
  case atStart=>exact⟨0,by omega,by omega,rfl,hY gw,hY rfl⟩
  case round =>
   obtain⟨g,hg8,hgg,rfl,HGR,HNO⟩:=hrel;by_cases hlt:g<l.length
   ·have hlt2:g<m.length:=by have:=HLEN.o;omega
    obtain⟨av,cv,e,-,hx⟩:=ints_open (HV.o.grew HGR.o);cases e;obtain⟨av2,cv2,e,-,hx2⟩:=ints_open (HU.o.grew HGR.o);cases e;obtain⟨b,off,rfl,hb,cx⟩:=hx g hlt;obtain⟨b2,off2,rfl,hb2,dx⟩:=hx2 g hlt2;have hs:=take_eq_succ hlt hlt2 HNO.o;have hf:=neq_at hlt hlt2;have HS:=hY hs;have HF:=hY hf;clear hx hx2 hs hf;generalize l[g]=x at *;generalize m[g]=y at *;by_cases hr:x=y
    ·cases hr
     go_upto_region 6 with fail
     go_quiet (fail)
     go_wp2
     go_roundg (l.length-(g+1))
     case measure=>omega
     case rel=>exact⟨g+1,by omega,by omega,by go_num,hY (HGR.o.trans gw),hY (HS.o (by first|exact rfl|trivial))⟩
    ·have HR:=hY hr;have hfin:decide (l=m)=false:=decide_eq_false (HF.o hr);have HFIN:=hY hfin;have hne:(x != y)=true:=by rw[bne_iff_ne];exact hr
     clear hr hfin
     go_upto_region 6 with fail
     go_quiet (fail)
     go_wp2;go_ret;exact⟨by rw[HFIN.o];rfl,HGR.o.trans gw⟩
   ·obtain rfl:g=l.length:=by omega
    have hz:=HNO.o;rw[List.take_length,List.take_of_length_le (by have:=HLEN.o;omega)] at hz;have hfin:decide (l=m)=true:=decide_eq_true hz;have HFIN:=hY hfin;clear hz hfin;go_wp2;go_ret;exact⟨by rw[HFIN.o];rfl,HGR.o⟩
 ·have hD2:((l.length:Int) != (m.length:Int))=true:=by rw[bne_iff_ne];omega
  have hfin:decide (l=m)=false:=decide_eq_false fun h=>hlen (by rw[h])
  have HFIN:=hY hfin;clear hfin hlen;go_enter Tryz.func69,Tryz.ntmps69;go_wp2;go_ret;exact⟨by rw[HFIN.o];rfl,gw⟩
theorem eqVals_any(v u:Value)(l m:List Val)(w:World)(hv:ValsAt w v l)(hu:ValsAt w u m): Calls Tryz.prog 118 #[v,u] w (Gives (.bool (decide (l=m))) w):=by
 have HV:=hY hv;have HU:=hY hu;obtain⟨a,cap,rfl,hm,-⟩:=hv.open2;obtain⟨a2,cap2,rfl,hm2,-⟩:=hu.open2;clear hv hu;by_cases hlen:l.length=m.length
 ·have hD2:((l.length:Int) != (m.length:Int))=false:=by rw[hlen];simp
  have HLEN:=hY hlen;clear hlen;go_enter Tryz.func118,Tryz.ntmps118;go_wp2
  go_loopg [13] l.length (fun gg s13 wr=>∃g:Nat,g≤l.length∧l.length-g≤gg∧s13 = .int .i64 g∧Hid (Grew w wr)∧Hid (l.take g=m.take g))
  case atStart=>exact⟨0,by omega,by omega,rfl,hY gw,hY rfl⟩
  case round =>
   obtain⟨g,hg8,hgg,rfl,HGR,HNO⟩:=hrel;by_cases hlt:g<l.length
   ·have hlt2:g<m.length:=by have:=HLEN.o;omega
    obtain⟨av,cv,e,-,hx⟩:=(HV.o.grew HGR.o).open2;cases e;obtain⟨av2,cv2,e,-,hx2⟩:=(HU.o.grew HGR.o).open2;cases e;obtain⟨b,off,rfl,hb,cx,cy⟩:=hx g hlt;obtain⟨b2,off2,rfl,hb2,dx,dy⟩:=hx2 g hlt2;have hs:=take_eq_succ hlt hlt2 HNO.o;have hf:=neq_at hlt hlt2;have HS:=hY hs;have HF:=hY hf;clear hx hx2 hs hf;generalize l[g]=x at *;generalize m[g]=y at *;obtain⟨x,x'⟩:=x;obtain⟨y,y'⟩:=y;simp only at cx cy dx dy;by_cases hr:((x,x'):Val)=(y,y')
    ·cases hr
     go_upto_region 6 with fail
     go_quiet (fail)
     go_wp2
     go_roundg (l.length-(g+1))
     case measure=>omega
     case rel=>exact⟨g+1,by omega,by omega,by go_num,hY (HGR.o.trans gw),hY (HS.o (by first|exact rfl|trivial))⟩
    ·have HR:=hY hr;have hfin:decide (l=m)=false:=decide_eq_false (HF.o hr);have HFIN:=hY hfin
     have hq:=run_neq_ins x x' y y' true (by
      have:=HR.o;by_cases e1:x=y<;>by_cases e2:x'=y'<;>simp[e1,e2]
      exact this (by rw[e1,e2]))
     clear hr hfin
     go_upto_region 6 with fail
     go_quiet (fail)
     go_wp2;go_ret;exact⟨by rw[HFIN.o];rfl,HGR.o.trans gw⟩
   ·obtain rfl:g=l.length:=by omega
    have hz:=HNO.o;rw[List.take_length,List.take_of_length_le (by have:=HLEN.o;omega)] at hz;have hfin:decide (l=m)=true:=decide_eq_true hz;have HFIN:=hY hfin;clear hz hfin;go_wp2;go_ret;exact⟨by rw[HFIN.o];rfl,HGR.o⟩
 ·have hD2:((l.length:Int) != (m.length:Int))=true:=by rw[bne_iff_ne];omega
  have hfin:decide (l=m)=false:=decide_eq_false fun h=>hlen (by rw[h])
  have HFIN:=hY hfin;clear hfin hlen;go_enter Tryz.func118,Tryz.ntmps118;go_wp2;go_ret;exact⟨by rw[HFIN.o];rfl,gw⟩
def zeroNd(id:Int): NdC:=⟨id,0,none,0,0,none,0,0,0,0,0,0,0,0,0,0,0⟩
def cleanC(c:StC): StC :=
 if c.kind=1 then ⟨1,{ zeroNd c.c.id with ap:=c.c.ap,np:=c.c.np,cp:=c.c.cp },c.reset⟩
 else if c.kind=2 then ⟨2,c.c,false⟩
 else if c.kind=3 then ⟨3,zeroNd c.c.id,false⟩
 else if c.kind=4 then ⟨4,⟨c.c.id,0,none,0,0,none,0,0,c.c.par,c.c.r0,c.c.r1,c.c.r2,c.c.r3,c.c.r4,c.c.r5,c.c.r6,c.c.r7⟩,false⟩
 else if c.kind=5 then ⟨5,{ zeroNd c.c.id with af:=c.c.af,nf:=c.c.nf,cf:=c.c.cf },false⟩
 else ⟨0,zeroNd 0,false⟩
theorem StepIs.clean{w:World}{c:StC}{s:Gr.Stp}(h:StepIs w c s): StepIs w (cleanC c) (Gr.cleanS s):=by
 obtain⟨hk,hn,hr⟩:=h;unfold cleanC Gr.cleanS;rw[hk];by_cases h1:c.kind=1
 ·rw[if_pos h1,if_pos h1];exact⟨rfl,⟨hn.id,rfl,RowsAt.nil,hn.p,rfl,rfl,Nat.zero_le _⟩,hr⟩
 rw[if_neg h1,if_neg h1];by_cases h2:c.kind=2
 ·rw[if_pos h2,if_pos h2];exact⟨rfl,hn,rfl⟩
 rw[if_neg h2,if_neg h2];by_cases h3:c.kind=3
 ·rw[if_pos h3,if_pos h3];exact⟨rfl,⟨hn.id,rfl,RowsAt.nil,RowsAt.nil,rfl,rfl,Nat.zero_le _⟩,rfl⟩
 rw[if_neg h3,if_neg h3];by_cases h4:c.kind=4
 ·rw[if_pos h4,if_pos h4];exact⟨rfl,⟨hn.id,rfl,RowsAt.nil,RowsAt.nil,hn.par,hn.route,Nat.zero_le _⟩,rfl⟩
 rw[if_neg h4,if_neg h4];by_cases h5:c.kind=5
 ·rw[if_pos h5,if_pos h5];exact⟨rfl,⟨hn.id,rfl,hn.f,RowsAt.nil,rfl,rfl,hn.fc⟩,rfl⟩
 rw[if_neg h5,if_neg h5];exact⟨rfl,⟨rfl,rfl,RowsAt.nil,RowsAt.nil,rfl,rfl,Nat.zero_le _⟩,rfl⟩
def greatN(n:Gr.Nd): Bool:=decide (60<n.prog.length)||decide (20<n.frm.length)
def greatG(l:List Gr.Nd): Bool:=decide (20<l.length)||l.any greatN
theorem great08_any(v:Value)(l:List Gr.Nd)(w:World)(hv:NodesAt w v l): Calls Tryz.prog 28 #[v] w (Gives (.bool (greatG l)) w):=by
 obtain⟨a,cap,rfl,hm,-⟩:=hv.open13;have HV:=hY hv;clear hv;by_cases h20:20<l.length
 ·have hg:greatG l=true:=by unfold greatG;rw[decide_eq_true h20];rfl
  have HG:=hY hg;clear hg;have h20':(20:Int)<(l.length:Int):=by omega
  go_enter Tryz.func28,Tryz.ntmps28;go_wp2;go_ret;refine⟨by rw[HG.o];rfl,?_⟩;exact gw
 ·have hg0:greatG l=l.any greatN:=by unfold greatG;rw[decide_eq_false h20];rfl
  have HG0:=hY hg0;clear hg0;go_enter Tryz.func28,Tryz.ntmps28;go_wp2
  go_loopw [10] (fun i wr=>∃k:Nat,k≤l.length∧i = .int .i64 k∧Grew w wr∧∀j (hj:j<l.length),j<k→greatN l[j]=false) (fun i _=>l.length-(intOf i).toNat)
  case atStart=>exact⟨0,Nat.zero_le _,rfl,gw,fun j _ h=>by omega⟩
  case round =>
   obtain⟨k,hk,rfl,hgw,hno⟩:=hrel;have HNO:=hY hno;have HGW:=hY hgw;by_cases hlt:k<l.length
   ·obtain⟨a',cap',e',-,hx⟩:=(HV.o.grew hgw).open13;cases e';obtain⟨b,off,vf,vp,rfl,hb,hvf,hvp,c0,c1,c2,c3,c4,c5,c6,c7,c8,c9,c10,c11,c12⟩:=hx k hlt;obtain⟨af,capf,rfl,hmf,-⟩:=ints_open hvf;obtain⟨ap,capp,rfl,hmp,-⟩:=hvp.open2;clear hx hvf hvp hgw hno;cases hq:greatN l[k]
    ·have HQ:=hY hq;unfold greatN at hq;simp only[Bool.or_eq_false_iff,decide_eq_false_iff_not] at hq;obtain⟨q1,q2⟩:=hq;generalize hgx:l[k]=x at *;have HGX:=hY hgx;clear hgx;go_wp2
     go_roundw
     case rel=>exact⟨k+1,by omega,by go_num,HGW.o.trans gw,fun j hj h=>by
      rcases Nat.lt_or_ge j k with h1|h1
      ·exact HNO.o j hj h1
      ·obtain rfl:j=k:=by omega
       rw[HGX.o]
       exact HQ.o⟩
     case measure=>first|(simp[intOf];done)|(simp[intOf];omega)
    ·have hg:greatG l=true:=by
      rw[HG0.o,List.any_eq_true];exact⟨l[k],List.getElem_mem hlt,hq⟩
     have HG:=hY hg;unfold greatN at hq;simp only[Bool.or_eq_true,decide_eq_true_eq] at hq;generalize l[k]=x at *;clear hg;by_cases q1:60<x.prog.length
     ·clear hq;go_wp2;go_ret;refine⟨by rw[HG.o];rfl,HGW.o.trans ?_⟩;exact gw
     ·have q2:20<x.frm.length:=by omega
      clear hq;go_wp2;go_ret;refine⟨by rw[HG.o];rfl,HGW.o.trans ?_⟩;exact gw
   ·obtain rfl:k=l.length:=by omega
    have hg:greatG l=false:=by
     rw[HG0.o,List.any_eq_false];intro x hx;obtain⟨t,ht,rfl⟩:=List.mem_iff_getElem.1 hx;rw[HNO.o t ht ht];simp
    have HG:=hY hg;clear hg hgw hno;go_wp2;go_ret;refine⟨by rw[HG.o];rfl,HGW.o.trans ?_⟩;exact gw
def greatP(p:List Gr.Stp): Bool:=decide (20<p.length)||p.any fun s=>greatG [s.nd]
theorem great10_any(v u:Value)(l:List Gr.Nd)(p:List Gr.Stp)(w:World)(hv:NodesAt w v l)(hu:StepsAt w u p): Calls Tryz.prog 6 #[v,u] w (Gives (.bool (greatG l||greatP p)) w):=by
 have HG8:=hY fun W (g:Grew w W)=>great08_any v l W (hv.grew g)
 have HU:=hY hu;obtain⟨a,cap,rfl,hm,-⟩:=hu.openC;clear hv hu;cases hl:greatG l
 ·have HL:=hY hl;by_cases h20:20<p.length
  ·have hp:(false||greatP p)=true:=by unfold greatP;rw[decide_eq_true h20];rfl
   have HP:=hY hp;have h20':(20:Int)<(p.length:Int):=by omega
   clear hl hp h20;go_enter Tryz.func6,Tryz.ntmps6
   go_wp2_with (go_at_call 28;refine(HG8.o _ gw).mono ?_;rintro e w1 ⟨rfl,R1,n1,rfl⟩;rw[HL.o])
   go_ret;exact⟨by rw[HP.o];rfl,gw⟩
  ·have h20':¬(20:Int)<(p.length:Int):=by omega
   have hp:(false||greatP p)=p.any fun s=>greatG [s.nd]:=by unfold greatP;rw[decide_eq_false h20];rfl
   have HP:=hY hp;clear hl hp h20;go_enter Tryz.func6,Tryz.ntmps6
   go_wp2_with (go_at_call 28;refine(HG8.o _ gw).mono ?_;rintro e w1 ⟨rfl,R1,n1,rfl⟩;rw[HL.o])
   go_loopg [16] p.length (fun gg s16 wr=>∃g:Nat,g≤p.length∧p.length-g≤gg∧s16 = .int .i64 g∧Hid (Grew w wr)∧Hid (∀i (hi:i<p.length),i<g→greatG [p[i].nd]=false))
   case atStart=>exact⟨0,by omega,by omega,rfl,hY gw,hY fun i _ h=>by omega⟩
   case round =>
    obtain⟨g,hg8,hgg,rfl,HGR,HNO⟩:=hrel;by_cases hlt:g<p.length
    ·obtain⟨av,cv,e,-,hx⟩:=(HU.o.grew HGR.o).openC;cases e;obtain⟨b,off,c,rfl,hb,hn,c0,c1,c2,c3,c4,c5,c6,c7,c8,c9,c10,c11,c12,c13,c14⟩:=hx g hlt;have hany:greatG [p[g].nd]=true→(p.any fun s=>greatG [s.nd])=true:=fun h=>List.any_eq_true.2 ⟨_,List.getElem_mem hlt,h⟩
     have HANY:=hY hany;clear hx hany;generalize hy:p[g]=y at *;have HY:=hY hy;have HND:=hY hn.nd;obtain⟨kind,reset,cid,kd,af,cf,ap,cp,par,r0,r1,r2,r3,r4,r5,r6,r7,rfl⟩:=hn.lit;simp only at c0 c1 c2 c3 c4 c5 c6 c7 c8 c9 c10 c11 c12 c13 c14;clear hn hy;cases hq:greatG [y.nd]
     ·have HQ:=hY hq;clear hq
      go_wp2_with (go_at_call 28;refine(great08_any _ [y.nd] _ (NodesAt.one (HND.o.grew gw) _ (by simp[World.size_alloc]) _ rfl)).mono ?_;rintro e w1 ⟨rfl,R1,n1,rfl⟩;rw[HQ.o])
      go_roundg (p.length-(g+1))
      case measure=>omega
      case rel=>exact⟨g+1,by omega,by omega,by go_num,hY (HGR.o.trans gw),hY fun i hi h=>by
       rcases Nat.lt_or_ge i g with h1|h1
       ·exact HNO.o i hi h1
       ·obtain rfl:i=g:=by omega
        rw[HY.o]
        exact HQ.o⟩
     ·have HQ:=hY hq;clear hq
      go_wp2_with (go_at_call 28;refine(great08_any _ [y.nd] _ (NodesAt.one (HND.o.grew gw) _ (by simp[World.size_alloc]) _ rfl)).mono ?_;rintro e w1 ⟨rfl,R1,n1,rfl⟩;rw[HQ.o])
      go_ret;exact⟨by rw[HP.o,HANY.o HQ.o];rfl,HGR.o.trans gw⟩
    ·obtain rfl:g=p.length:=by omega
     have hno:(p.any fun s=>greatG [s.nd])=false:=by
      rw[List.any_eq_false];intro s hs;obtain⟨i,hi,rfl⟩:=List.mem_iff_getElem.1 hs;rw[HNO.o i hi hi];simp
     have HNN:=hY hno;clear hno;go_wp2;go_ret;exact⟨by rw[HP.o,HNN.o];rfl,HGR.o⟩
 ·have HL:=hY hl;clear hl;go_enter Tryz.func6,Tryz.ntmps6
  go_wp2_with (go_at_call 28;refine(HG8.o _ gw).mono ?_;rintro e w1 ⟨rfl,R1,n1,rfl⟩;rw[HL.o])
  go_ret;exact⟨by rfl,gw⟩
end Go.Proofs.YtipgfjihdglocaaGreat
namespace Go
theorem wanted_noneP{o:Oper}{y:Nat→Option Bool}(h:o.guard=none): Region.wanted o y=true:=by simp[Region.wanted,h]
theorem if_wantedP{c:Prop}[Decidable c]{A B:Prop}(hc:c)(h:A): if c then A else B:=by rw[if_pos hc];exact h
theorem wp_ownF{α:Type}{e:TypeId}{k:Nat}{enc:α→List Value}{base g n cap:Nat}{vx:Value}{l l2:List α}{P:Program}{o:Oper}{a:Act}{K:Act→World→Prop}{Q:Exit→Act→World→Prop}{W:World}
  (s x:Operand) (t:TypeId) (z:Value) (bytes r:Nat)
  (ho:o.op = .call { callee:=.builtin .append,args:=#[s,x],argTypes:=#[t,t] })
  (ht:P.underlying t=some (.slice e)) (hinfo:(P.info? e).map (fun i=>(i.zero,i.size,i.bytes))=some (some z,k,bytes))
  (henc:∀x,(enc x).length=k) (hone:∀x,∀u∈enc x,u.oneCell'=true)
  (hs:a.eval s = .slice (some ⟨g,0,none⟩) n cap) (hn:n=l.length) (hown:OwnAt base e k enc W (.slice (some ⟨g,0,none⟩) n cap) l)
  (hx:a.eval x=vx) (hrows:RowsAt k enc W vx l2) (hnil:∃ad c,vx = .slice (some ad) l2.length c)
  (hroom:r≤cap) (hr:r=l.length+l2.length)
  (h:∀W',OwnAt base e k enc W' (.slice (some ⟨g,0,none⟩) r cap) (l++l2)→W.grownBy W' (some g)→K (a.put o.dst (.slice (some ⟨g,0,none⟩) r cap)) W'):Oper.wp P o a W K Q:=by
 subst hn hr;obtain⟨i,hi,hz0,hz1,hz2⟩:=info_parts hinfo;obtain⟨a2,cap2,hv2,hm2,hc2⟩:=hrows;obtain⟨ad,c,h0⟩:=hnil;subst h0
 obtain⟨W',hrun,h1,h2⟩:=run_append_fits (P:=P) W base t o.type e i k ht hi hz1 g l.length cap (l.flatMap enc) hown ad l2.length c (l2.flatMap enc) (flat_length henc l2) (by
   intro j u hj;obtain⟨q,y,r,h1,h2,rfl⟩:=flat_inv henc l2 j u hj;obtain⟨b,off,hb,hcell⟩:=hc2 (by intro e;subst e;simp at h1);cases hv2;cases hb;rw[addr_add_off,←Nat.add_assoc]
   exact hcell q y h1 r u h2) (by
   intro u hu;obtain⟨y,_,hy⟩:=List.mem_flatMap.1 hu
   exact hone y u hy) hroom
 unfold Oper.wp;simp[execOp,ho,resolve,invoke,builtin,hs,hx,hrun,Result.andThen];refine h W' ?_ h2;unfold OwnAt;rw[List.length_append,List.flatMap_append];exact h1
end Go
namespace Go.Proofs.YtipgfjihdglocaaGreat
open Go.RowKit Ga
theorem rows_dropN{w:World}{b n cap:Nat}{l:List NdC}{j:Nat}(h:RowsAt 13 encNd w (.slice (some ⟨b,0,none⟩) n cap) l)(hj:j≤l.length)(c2 m off:Nat)(hm:m=l.length-j)(ho:off=j*13): RowsAt 13 encNd w (.slice (some ⟨b,off,none⟩) m c2) (l.drop j):=by
 subst hm ho;obtain⟨a,cap',e,hmx,hx⟩:=h;cases e;refine⟨_,_,by rw[List.length_drop],by rw[List.length_drop];omega,fun hne=>?_⟩;obtain⟨b',off',e,hc⟩:=hx (by intro e;subst e;simp at hne);cases e;refine⟨_,_,rfl,fun i x hi q v hv=>?_⟩;rw[List.getElem?_drop] at hi;have:=hc (j+i) x hi q v hv;rw[←this]
 congr 2
 simp;omega
theorem rows_dropIf{w:World}{b n cap:Nat}{l:List NdC}{i j:Nat}(h:RowsAt 13 encNd w (.slice (some ⟨b,0,none⟩) n cap) l)(hn:n=l.length)(hj:j≤l.length)(hc:l.length≤cap)(hij:j=i+1): RowsAt 13 encNd w (.slice (if cap=j then some ⟨b,0,none⟩ else some ⟨b,j*13,none⟩) (n-j) (cap-j)) (l.drop (i+1)):=by
 subst hij hn;by_cases e:cap=i+1
 ·rw[if_pos e,List.drop_eq_nil_of_le (by omega),show l.length-(i+1)=0 by omega];exact⟨_,_,rfl,by simp[maxLen],fun h=>absurd rfl h⟩
 ·rw[if_neg e];exact rows_dropN h hj _ _ _ rfl rfl
theorem ite_some(b j cap n:Nat): ∃ad c,Value.slice (if cap=j then some (⟨b,0,none⟩:Addr) else some ⟨b,j*13,none⟩) n (cap-j) = .slice (some ad) n c:=by
 split<;>exact⟨_,_,rfl⟩
def zNdP:Value:=.agg #[.int .i64 0,.int .i64 0,.slice none 0 0,.slice none 0 0,.int .i64 0,.int .i64 0,.int .i64 0,.int .i64 0,.int .i64 0,.int .i64 0,.int .i64 0,.int .i64 0,.int .i64 0]
theorem infoNdP:(Tryz.prog.info? 52).map (fun i=>(i.zero,i.size,i.bytes))=some (some zNdP,13,136):=by kernel_rfl
theorem encNd_oneP(c:NdC): ∀u∈encNd c,u.oneCell'=true:=by
 intro u hu;simp[encNd] at hu;rcases hu with rfl|rfl|rfl|rfl|rfl|rfl|rfl|rfl|rfl|rfl|rfl|rfl|rfl<;>rfl
def DelPost(w0 w:World)(b m cap:Nat)(l:List NdC)(e:Ending)(w':World): Prop:=e = .returned (.slice (some ⟨b,0,none⟩) m cap)∧OwnAt w0.heap.size 52 13 encNd w' (.slice (some ⟨b,0,none⟩) m cap) l∧Grew w0 w'∧Keep b w w'
theorem zc13:(Builtin.zeroCells zNdP.cells 1).size=13:=by kernel_rfl
theorem zc_one:∀v∈(Builtin.zeroCells zNdP.cells 1).toList,v.oneCell'=true:=List.all_eq_true.1 (show(Builtin.zeroCells zNdP.cells 1).toList.all (·.oneCell')=true by kernel_rfl)
theorem delete_any(w0 w:World)(b cap m i j:Nat)(hij:j=i+1)(lc:List NdC)(hg:Grew w0 w)(h:OwnAt w0.heap.size 52 13 encNd w (.slice (some ⟨b,0,none⟩) (m+1) cap) lc)(hi:i≤m)(hm:m≤1000):
  Calls Tryz.prog 158 #[.slice (some ⟨b,0,none⟩) (m+1) cap,.int .i64 (i:Int),.int .i64 (j:Int)] w (DelPost w0 w b m cap (lc.take i++lc.drop (i+1))):=by
 obtain⟨hl,hbb,hlc,hcm,cur,hh,hsz,-⟩:=h.cells;have HO:=hY h;have HG:=hY hg;have HR:=hY (OwnAt.rows h encNd_len);have HCUT:=hY (OwnAt.cut h encNd_len (m:=i) (by omega));have HH:=hY hh;have HBB:=hY hbb;have HSZ:=hY hsz;have hcap:(m:Int)+1≤(cap:Int):=by omega
 have hic:(i:Int)≤(cap:Int):=by omega
 have hic2:(j:Int)≤(cap:Int):=by omega
 have him:(i:Int)≤(m:Int):=by omega
 have hne:((i:Int)==(j:Int))=false:=by simp;omega
 have hij2:(i:Int)≤(j:Int):=by omega
 have hjm:(j:Int)≤(m:Int)+1:=by omega
 have hcm2:¬(cap=m):=by omega
 have hcmm:(m:Int)≤(cap:Int):=by omega
 clear h hg hh hsz;have HL:=hY hl;have HIJ:=hY hij;have hlt:i<j:=by omega
 have hjl:j≤m+1:=by omega
 have hR2:(lc.take i).length=i:=by rw[List.length_take];omega
 have hR3:(lc.drop (i+1)).length=m+1-j:=by rw[List.length_drop];omega
 have HR2:=hY hR2;have HR3:=hY hR3;have HJ:Hid (j≤m+1∧i<j∧j=i+1∧m+1=lc.length∧i≤lc.length∧i+1≤lc.length∧m+1≤cap):=hY ⟨by omega,by omega,hij,hl,by omega,by omega,by omega⟩;have hD:∀W2,Grew w W2→RowsAt 13 encNd W2 (.slice (if cap=j then some ⟨b,0,none⟩ else some ⟨b,j*13,none⟩) (m+1-j) (cap-j)) (lc.drop (i+1)):=fun W2 g=>rows_dropIf (HR.o.grew g) (by omega) (by omega) (by omega) hij
 have HD:=hY hD;clear hl hij hR2 hR3 hD;go_enter Tryz.func158,Tryz.ntmps158
 go_upto_region 5 with fail
 go_cut [0] (fun s0 wx=>s0 = .slice (some ⟨b,0,none⟩) m cap∧OwnAt w0.heap.size 52 13 encNd wx (.slice (some ⟨b,0,none⟩) m cap) (lc.take i++lc.drop (i+1))∧Grew w0 wx∧Keep b w wx)
 case first =>
  refine wp_region_noPanic ?_
  go_region_law (refine if_wantedP (wanted_noneP rfl) ?_; apply wp_ownF (base := w0.heap.size) (l := lc.take i) (l2 := lc.drop (i + 1)) (vx := .slice (if cap = j then some ⟨b, 0, none⟩ else some ⟨b, j * 13, none⟩) (m + 1 - j) (cap - j)) (s := .tmp 22) (x := .tmp 25) (t := 22) (r := m) (ho := rfl) (ht := Tryz.underlying22) (hinfo := infoNdP) (henc := encNd_len) (hone := encNd_oneP) (hs := rfl) (hx := rfl); (case hn => exact HR2.o.symm); (case hown => first | exact HCUT.o.grew gw | fail "O1"); (case hrows => first | exact HD.o _ gw | fail "R1"); (case hnil => (obtain ⟨ad, c, e⟩ := ite_some b j cap (m + 1 - j); exact ⟨ad, c, e.trans (by rw [HR3.o])⟩)); (case hroom => have := HJ.o; omega); (case hr => rw [HR2.o, HR3.o]; have := HJ.o; omega); intro W7 hA hB; (have HA7 := hY hA); (have HB7 := hY hB); clear hA hB)
  all_goals
   refine NoPanic.normal ?_;generalize (if cap=j then some (⟨b,0,none⟩:Addr) else some ⟨b,j*13,none⟩)=zz;go_wp2
   go_meet
   exact⟨rfl,HA7.o,(HG.o.trans gw).grown HB7.o (fun q hq=>by cases hq;exact HBB.o),⟨HB7.o.size,fun q hq hn=>HB7.o.block q hq fun e=>hn (Option.some.inj e)⟩⟩
 obtain⟨rfl,ho5,hg5,hk5⟩:=hcut;obtain⟨-,-,-,-,cur5,hh5,hs5,-⟩:=OwnAt.cells ho5;have HO5:=hY ho5;have HG5:=hY hg5;have HK5:=hY hk5;have HH5:=hY hh5;have HS5:Hid (m*13+(Builtin.zeroCells zNdP.cells 1).size≤cur5.size):=hY (by rw[zc13,hs5];have:=HJ.o;omega);have HLM:Hid ((lc.take i++lc.drop (i+1)).length=m):=hY (by rw[List.length_append,List.length_take,List.length_drop];have:=HJ.o;omega);have hcm3:(m:Int)+1≤(cap:Int):=by have:=HJ.o;omega
 clear ho5 hg5 hk5 hh5 hs5;have hcl:=run_clear_rows (P:=Tryz.prog) wc 22 52 0 zNdP Tryz.underlying22 Tryz.zeroValue52 b (m*13) 1 (cap-m) (by decide) cur5 HH5.o HS5.o zc_one;obtain⟨cur8,hc8⟩:∃cur8:Array Value,cur8=(cur5.toList.take (m*13)++(Builtin.zeroCells zNdP.cells 1).toList++cur5.toList.drop (m*13+(Builtin.zeroCells zNdP.cells 1).size)).toArray:=⟨_,rfl⟩;rw[←hc8] at hcl;have HS8:Hid (cur8.size=cur5.size):=hY (by have:=HS5.o;rw[zc13] at this;rw[hc8];simp[zc13];omega)
 have HL8:Hid (∀i,i<m*13→cur8[i]? = cur5[i]?):=hY fun q hq=>by
  have h3:q<(cur5.toList.take (m*13)).length:=by have:=HS5.o;rw[List.length_take,Array.length_toList];omega
  rw[hc8,List.getElem?_toArray,List.append_assoc,List.getElem?_append_left h3,List.getElem?_take,if_pos hq];simp
 have HH8:Hid ((wc.setRow b cur8).heap[b]? = some (.cells cur8 52)):=hY (setRow_heap wc b cur5 _ _ _ HH5.o);have HT8:Hid (∀q,q≠b→(wc.setRow b cur8).heap[q]? = wc.heap[q]?):=hY fun q hq=>setRow_other wc b q _ hq
 have HZ8:Hid ((wc.setRow b cur8).heap.size=wc.heap.size):=hY (setRow_size wc b _);have HG8:Hid (Grew w0 (wc.setRow b cur8)):=hY (Grew.ofBelow (below_setRow HG5.o.below HBB.o _));clear hc8;generalize wc.setRow b cur8=W8 at *;go_wp2;go_ret;exact⟨rfl,OwnAt.past encNd_len HO5.o HH5.o HH8.o HS8.o (fun q hq=>HL8.o q (by rw[HLM.o] at hq;exact hq)),HG8.o,⟨by rw[HZ8.o];exact HK5.o.1,fun q hq hn=>by rw[HT8.o q hn];exact HK5.o.2 q hq hn⟩⟩
end Go.Proofs.YtipgfjihdglocaaGreat
namespace Go.Proofs.YtipgfjihdglocaaGreat
open Go.RowKit Ga Go.ChangeShapes Go.WideShapes
theorem cells_int1:Tryz.prog.cellsOf 3=1:=by kernel_rfl
theorem cells_ints1:Tryz.prog.cellsOf 43=1:=by kernel_rfl
theorem cells_ins:Tryz.prog.cellsOf 187=2:=by kernel_rfl
theorem cells_inss1:Tryz.prog.cellsOf 49=1:=by kernel_rfl
theorem cells_arr8:Tryz.prog.cellsOf 50=8:=by kernel_rfl
theorem cells_node:Tryz.prog.cellsOf 52=13:=by kernel_rfl
theorem opens_int1:Opens Tryz.prog 3 (fun _ cs (n:Int)=>cs=[Value.int .i64 n]∧True):=(Opens.i64 Tryz.underlying3).mono fun _ _ n h=>⟨n,h.1,trivial⟩
theorem opens_insN:Opens Tryz.prog 187 (fun _ cs (a:Ga.Val)=>cs=[Value.int .i64 a.1,Value.int .i64 a.2]∧True):=by
 intro H enc w fuel cs x hx;obtain⟨hl,hf⟩:=Opens.fields Tryz.underlying187 hx;rw[cells_ins] at hl
 match cs,hl with
 |[c0,c1],_ =>
  obtain⟨n0,y0,h0⟩:=hf 0 _ rfl;obtain⟨n1,y1,h1⟩:=hf 1 _ rfl;have h0':DataW.trod enc Tryz.prog w 0 (fun _=>true) true n0 3 (([c0,c1].drop 0).take (Tryz.prog.cellsOf 3))=some y0:=h0;have h1':DataW.trod enc Tryz.prog w 0 (fun _=>true) true n1 3 (([c0,c1].drop 1).take (Tryz.prog.cellsOf 3))=some y1:=h1;rw[cells_int1] at h0' h1';obtain⟨i0,e0,-⟩:=opens_int1 H enc w n0 _ _ h0';obtain⟨i1,e1,-⟩:=opens_int1 H enc w n1 _ _ h1';simp at e0 e1;subst e0 e1;exact⟨(i0,i1),rfl,trivial⟩
theorem SlAt.rowsC{α:Type}{k:Nat}{enc:α→List Value}{w:World}{v:Value}{l:List α}(h:SlAt k (fun _ cs (a:α)=>cs=enc a∧True) w v l): RowsAt k enc w v l∧∃a cap,v = .slice a l.length cap∧l.length≤cap:=by
 refine⟨h.rows.1,?_⟩;obtain⟨a,cap,rfl,hl,-⟩:=h;exact⟨a,cap,rfl,hl⟩
theorem opens_node:Opens Tryz.prog 52 (fun w cs (x:NdC×Gr.Nd)=>cs=encNd x.1∧NodeIs w x.1 x.2):=by
 intro H enc w fuel cs x hx;obtain⟨hl,hf⟩:=Opens.fields Tryz.underlying52 hx;rw[cells_node] at hl
 match cs,hl with
 |[c0,c1,c2,c3,c4,c5,c6,c7,c8,c9,c10,c11,c12],_ =>
  obtain⟨n0,y0,h0⟩:=hf 0 _ rfl;obtain⟨n1,y1,h1⟩:=hf 1 _ rfl;obtain⟨n2,y2,h2⟩:=hf 2 _ rfl;obtain⟨n3,y3,h3⟩:=hf 3 _ rfl;obtain⟨n4,y4,h4⟩:=hf 4 _ rfl;obtain⟨n5,y5,h5⟩:=hf 5 _ rfl;have h0':DataW.trod enc Tryz.prog w 0 (fun _=>true) true n0 3 (([c0,c1,c2,c3,c4,c5,c6,c7,c8,c9,c10,c11,c12].drop 0).take (Tryz.prog.cellsOf 3))=some y0:=h0;have h1':DataW.trod enc Tryz.prog w 0 (fun _=>true) true n1 3 (([c0,c1,c2,c3,c4,c5,c6,c7,c8,c9,c10,c11,c12].drop 1).take (Tryz.prog.cellsOf 3))=some y1:=h1;have h2':DataW.trod enc Tryz.prog w 0 (fun _=>true) true n2 43 (([c0,c1,c2,c3,c4,c5,c6,c7,c8,c9,c10,c11,c12].drop 2).take (Tryz.prog.cellsOf 43))=some y2:=h2;have h3':DataW.trod enc Tryz.prog w 0 (fun _=>true) true n3 49 (([c0,c1,c2,c3,c4,c5,c6,c7,c8,c9,c10,c11,c12].drop 3).take (Tryz.prog.cellsOf 49))=some y3:=h3;have h4':DataW.trod enc Tryz.prog w 0 (fun _=>true) true n4 3 (([c0,c1,c2,c3,c4,c5,c6,c7,c8,c9,c10,c11,c12].drop 4).take (Tryz.prog.cellsOf 3))=some y4:=h4;have h5':DataW.trod enc Tryz.prog w 0 (fun _=>true) true n5 50 (([c0,c1,c2,c3,c4,c5,c6,c7,c8,c9,c10,c11,c12].drop 5).take (Tryz.prog.cellsOf 50))=some y5:=h5;rw[cells_int1] at h0' h1' h4';rw[cells_ints1] at h2';rw[cells_inss1] at h3';rw[cells_arr8] at h5';obtain⟨i0,e0,-⟩:=opens_int1 H enc w n0 _ _ h0';obtain⟨i1,e1,-⟩:=opens_int1 H enc w n1 _ _ h1';obtain⟨i4,e4,-⟩:=opens_int1 H enc w n4 _ _ h4';obtain⟨l2,v2,e2,s2⟩:=Opens.slice Tryz.underlying43 cells_int1 (by decide) opens_int1 H enc w n2 _ _ h2';obtain⟨l3,v3,e3,s3⟩:=Opens.slice Tryz.underlying49 cells_ins (by decide) opens_insN H enc w n3 _ _ h3';obtain⟨hl5,hf5⟩:=Opens.elems Tryz.underlying50 h5';obtain⟨r2,a2,k2,rfl,hk2⟩:=SlAt.rowsC (enc:=fun(x:Int)=>[Value.int .i64 x]) s2;obtain⟨r3,a3,k3,rfl,hk3⟩:=SlAt.rowsC (enc:=fun(a:Ga.Val)=>[Value.int .i64 a.1,Value.int .i64 a.2]) s3
  have hr:∀i,i<8→∃r:Int,(([c5,c6,c7,c8,c9,c10,c11,c12].drop i).take 1)=[Value.int .i64 r]:=fun i hi=>by
   obtain⟨m,y,h⟩:=hf5 i hi;rw[cells_int1,Nat.mul_one] at h;obtain⟨r,e,-⟩:=opens_int1 H enc w m _ _ h;exact⟨r,e⟩
  obtain⟨q0,g0⟩:=hr 0 (by decide);obtain⟨q1,g1⟩:=hr 1 (by decide);obtain⟨q2,g2⟩:=hr 2 (by decide);obtain⟨q3,g3⟩:=hr 3 (by decide);obtain⟨q4,g4⟩:=hr 4 (by decide);obtain⟨q5,g5⟩:=hr 5 (by decide);obtain⟨q6,g6⟩:=hr 6 (by decide);obtain⟨q7,g7⟩:=hr 7 (by decide);simp at e0 e1 e2 e3 e4 g0 g1 g2 g3 g4 g5 g6 g7;subst e0 e1 e2 e3 e4 g0 g1 g2 g3 g4 g5 g6 g7;exact⟨(⟨i0,i1,a2,l2.length,k2,a3,l3.length,k3,i4,q0,q1,q2,q3,q4,q5,q6,q7⟩,⟨i0,i1,l2,l3,i4,[q0,q1,q2,q3,q4,q5,q6,q7]⟩),rfl,rfl,rfl,r2,r3,rfl,rfl,hk2⟩
theorem nodes_of{w:World}{v:Value}{l:List (NdC×Gr.Nd)}(h:SlAt 13 (fun w cs (x:NdC×Gr.Nd)=>cs=encNd x.1∧NodeIs w x.1 x.2) w v l): NodesAt w v (l.map (·.2)):=by
 obtain⟨a,cap,rfl,hl,hm,hnil,hx⟩:=h;refine⟨l.map (·.1),⟨a,cap,by simp,Nat.le_trans (by simpa using hl) hm,fun hne=>?_⟩,by simp,?_⟩
 ·obtain⟨b,off,rfl,hc⟩:=hx (by intro e;subst e;exact hne rfl);refine⟨b,off,rfl,fun i c hi j u hu=>?_⟩;rw[List.getElem?_map] at hi;obtain⟨y,hy,rfl⟩:=Option.map_eq_some_iff.1 hi;obtain⟨cs,-,⟨rfl,-⟩,h2⟩:=hc i y hy;exact h2 j u hu
 ·intro i c n hc hn;rw[List.getElem?_map] at hc hn;obtain⟨y,hy,rfl⟩:=Option.map_eq_some_iff.1 hc;obtain⟨z,hz,rfl⟩:=Option.map_eq_some_iff.1 hn;obtain rfl:=Option.some.inj (hy.symm.trans hz);obtain⟨b,off,rfl,hx2⟩:=hx (by intro e;subst e;simp at hy);obtain⟨cs,-,⟨-,h1⟩,-⟩:=hx2 i y hy;exact h1
theorem arg_nodes{H:Type}{enc:TypeId×Value→H}{w:World}{v:Value}{d:DataW H}{ps:List MemPlace}{r:Reach}{b:Nat}(ho:Value.okWide Tryz.prog w r b 22 v)(h:DataW.Trod enc Tryz.prog w 0 (fun _=>true) true 22 v d ps): ∃l,NodesAt w v l:=by
 obtain⟨l,u,h1,h2⟩:=(Opens.slice Tryz.underlying22 cells_node (by decide) opens_node).arg h;obtain rfl:=cells_slice Tryz.underlying22 ho h1;exact⟨_,nodes_of h2⟩
theorem cells_step:Tryz.prog.cellsOf 69=15:=by kernel_rfl
theorem cells_bool1:Tryz.prog.cellsOf 4=1:=by kernel_rfl
theorem opens_bool1:Opens Tryz.prog 4 (fun _ cs (b:Bool)=>cs=[Value.bool b]∧True):=(Opens.bool Tryz.underlying4).mono fun _ _ n h=>⟨n,h,trivial⟩
theorem opens_step:Opens Tryz.prog 69 (fun w cs (x:StC×Gr.Stp)=>cs=encSt x.1∧StepIs w x.1 x.2):=by
 intro H enc w fuel cs x hx;obtain⟨hl,hf⟩:=Opens.fields Tryz.underlying69 hx;rw[cells_step] at hl
 match cs,hl with
 |[c0,c1,c2,c3,c4,c5,c6,c7,c8,c9,c10,c11,c12,c13,c14],_ =>
  obtain⟨n0,y0,h0⟩:=hf 0 _ rfl;obtain⟨n1,y1,h1⟩:=hf 1 _ rfl;obtain⟨n2,y2,h2⟩:=hf 2 _ rfl;have h0':DataW.trod enc Tryz.prog w 0 (fun _=>true) true n0 3 (([c0,c1,c2,c3,c4,c5,c6,c7,c8,c9,c10,c11,c12,c13,c14].drop 0).take (Tryz.prog.cellsOf 3))=some y0:=h0;have h1':DataW.trod enc Tryz.prog w 0 (fun _=>true) true n1 52 (([c0,c1,c2,c3,c4,c5,c6,c7,c8,c9,c10,c11,c12,c13,c14].drop 1).take (Tryz.prog.cellsOf 52))=some y1:=h1;have h2':DataW.trod enc Tryz.prog w 0 (fun _=>true) true n2 4 (([c0,c1,c2,c3,c4,c5,c6,c7,c8,c9,c10,c11,c12,c13,c14].drop 14).take (Tryz.prog.cellsOf 4))=some y2:=h2;rw[cells_int1] at h0';rw[cells_node] at h1';rw[cells_bool1] at h2';obtain⟨i0,e0,-⟩:=opens_int1 H enc w n0 _ _ h0';obtain⟨⟨c,n⟩,e1,hn⟩:=opens_node H enc w n1 _ _ h1';obtain⟨b2,e2,-⟩:=opens_bool1 H enc w n2 _ _ h2';simp[encNd] at e0 e1 e2;obtain⟨g0,g1,g2,g3,g4,g5,g6,g7,g8,g9,g10,g11,g12⟩:=e1;subst e0 e2 g0 g1 g2 g3 g4 g5 g6 g7 g8 g9 g10 g11 g12;exact⟨(⟨i0,c,b2⟩,⟨i0,n,b2⟩),rfl,⟨rfl,hn,rfl⟩⟩
theorem steps_of{w:World}{v:Value}{l:List (StC×Gr.Stp)}(h:SlAt 15 (fun w cs (x:StC×Gr.Stp)=>cs=encSt x.1∧StepIs w x.1 x.2) w v l): StepsAt w v (l.map (·.2)):=by
 obtain⟨a,cap,rfl,hl,hm,hnil,hx⟩:=h;refine⟨l.map (·.1),⟨a,cap,by simp,Nat.le_trans (by simpa using hl) hm,fun hne=>?_⟩,by simp,?_⟩
 ·obtain⟨b,off,rfl,hc⟩:=hx (by intro e;subst e;exact hne rfl);refine⟨b,off,rfl,fun i c hi j u hu=>?_⟩;rw[List.getElem?_map] at hi;obtain⟨y,hy,rfl⟩:=Option.map_eq_some_iff.1 hi;obtain⟨cs,-,⟨rfl,-⟩,h2⟩:=hc i y hy;exact h2 j u hu
 ·intro i c n hc hn;rw[List.getElem?_map] at hc hn;obtain⟨y,hy,rfl⟩:=Option.map_eq_some_iff.1 hc;obtain⟨z,hz,rfl⟩:=Option.map_eq_some_iff.1 hn;obtain rfl:=Option.some.inj (hy.symm.trans hz);obtain⟨b,off,rfl,hx2⟩:=hx (by intro e;subst e;simp at hy);obtain⟨cs,-,⟨-,h1⟩,-⟩:=hx2 i y hy;exact h1
end Go.Proofs.YtipgfjihdglocaaGreat
