import Derived.Test.YtipgfjihdglocaaGreatCw0
import Derived.Test.YtipgfjihdglocaaGreatCw4
import Derived.Test.YtipgfjihdglocaaGreatCw5
import Derived.Deep.LoopGhost
import Derived.Deep.DeepCutAuto
import Derived.Deep.QuietTactic
import Derived.BigQuiet
import Derived.RegionTactic
import Derived.Laws.OwnMore
import Derived.Laws.CopyOwn
import Derived.Deep.CutBlock
import Derived.Deep.RegionHeld3
set_option linter.unusedSimpArgs false
set_option linter.unusedVariables false
set_option maxRecDepth 100000
set_option maxHeartbeats 64000000
namespace Go.Proofs.YtipgfjihdglocaaGreat
open Go.RowKit Ga
abbrev IntsAt(w:World)(v:Value)(l:List Int): Prop:=RowsAt 1 (fun x=>[Value.int .i64 x]) w v l
structure NdC where
 id:Int
 kind:Int
 af:Option Addr
 nf:Nat
 cf:Nat
 ap:Option Addr
 np:Nat
 cp:Nat
 par:Int
 r0:Int
 r1:Int
 r2:Int
 r3:Int
 r4:Int
 r5:Int
 r6:Int
 r7:Int
instance:Inhabited NdC:=⟨⟨0,0,none,0,0,none,0,0,0,0,0,0,0,0,0,0,0⟩⟩
abbrev NdC.vf(c:NdC): Value:=.slice c.af c.nf c.cf
abbrev NdC.vp(c:NdC): Value:=.slice c.ap c.np c.cp
def encNd(n:NdC): List Value:=[.int .i64 n.id,.int .i64 n.kind,.slice n.af n.nf n.cf,.slice n.ap n.np n.cp,.int .i64 n.par,.int .i64 n.r0,.int .i64 n.r1,.int .i64 n.r2,.int .i64 n.r3,.int .i64 n.r4,.int .i64 n.r5,.int .i64 n.r6,.int .i64 n.r7]
theorem encNd_len(n:NdC): (encNd n).length=13:=rfl
structure NodeIs (w:World) (c:NdC) (n:Gr.Nd):Prop where
 id:n.id=c.id
 kind:n.kind=c.kind
 f:IntsAt w c.vf n.frm
 p:ValsAt w c.vp n.prog
 par:n.par=c.par
 route:n.route=[c.r0,c.r1,c.r2,c.r3,c.r4,c.r5,c.r6,c.r7]
 fc:n.frm.length≤c.cf
theorem NodeIs.grew{w w':World}{c:NdC}{n:Gr.Nd}(h:NodeIs w c n)(g:Grew w w'): NodeIs w' c n :=
 { h with f:=h.f.grew g,p:=h.p.grew g }
theorem IntsAt.one{w:World}{v:Value}{l:List Int}(h:IntsAt w v l): v.oneCell'=true:=by
 obtain⟨a,cap,rfl,-⟩:=h;rfl
theorem ValsAt.one{w:World}{v:Value}{l:List Val}(h:ValsAt w v l): v.oneCell'=true:=by
 obtain⟨a,cap,rfl,-⟩:=h;rfl
theorem encNd_one(c:NdC): ∀u∈encNd c,u.oneCell'=true:=by
 intro u hu;simp[encNd] at hu;rcases hu with rfl|rfl|rfl|rfl|rfl|rfl|rfl|rfl|rfl|rfl|rfl|rfl|rfl<;>rfl
theorem NodeIs.lit{w:World}{c:NdC}{n:Gr.Nd}(h:NodeIs w c n): ∃id kind af cf ap cp par r0 r1 r2 r3 r4 r5 r6 r7,c=⟨id,kind,af,n.frm.length,cf,ap,n.prog.length,cp,par,r0,r1,r2,r3,r4,r5,r6,r7⟩:=by
 obtain⟨id,kind,af,nf,cf,ap,np,cp,par,r0,r1,r2,r3,r4,r5,r6,r7⟩:=c;obtain⟨af',cf',e1⟩:=h.f.len;obtain⟨ap',cp',e2⟩:=h.p.len;simp only[NdC.vf,NdC.vp] at e1 e2;cases e1;cases e2;exact⟨id,kind,_,_,_,_,par,r0,r1,r2,r3,r4,r5,r6,r7,rfl⟩
def NodesAt(w:World)(v:Value)(l:List Gr.Nd): Prop:=∃lc:List NdC,RowsAt 13 encNd w v lc∧lc.length=l.length∧∀(i:Nat) (c:NdC) (n:Gr.Nd),lc[i]? = some c→l[i]? = some n→NodeIs w c n
theorem NodesAt.grew{w w':World}{v:Value}{l:List Gr.Nd}(h:NodesAt w v l)(g:Grew w w'): NodesAt w' v l:=by
 obtain⟨lc,h1,h2,h3⟩:=h;exact⟨lc,h1.grew g,h2,fun i c n hc hn=>(h3 i c n hc hn).grew g⟩
theorem NodeIs.r8{w:World}{c:NdC}{n:Gr.Nd}(h:NodeIs w c n): n.route.length=8:=by rw[h.route];rfl
theorem NodesAt.r8{w:World}{v:Value}{l:List Gr.Nd}(h:NodesAt w v l): ∀n∈l,n.route.length=8:=by
 obtain⟨lc,h1,h2,h3⟩:=h;intro n hn;obtain⟨i,hi,e⟩:=List.mem_iff_getElem.1 hn;exact(h3 i _ n (List.getElem?_eq_getElem (by omega)) (by rw[List.getElem?_eq_getElem hi,e])).r8
theorem NodesAt.openC{w:World}{v:Value}{l:List Gr.Nd}(h:NodesAt w v l): ∃a cap,v = .slice a l.length cap∧l.length≤9223372036854775807∧∀i (hi:i<l.length),∃b off c,a=some ⟨b,off,none⟩∧Pre b w∧NodeIs w c l[i] ∧
  w.cell? ⟨b,off+i*13,none⟩=some (.int .i64 c.id)∧w.cell? ⟨b,off+i*13+1,none⟩=some (.int .i64 c.kind)∧w.cell? ⟨b,off+i*13+2,none⟩=some (.slice c.af c.nf c.cf)∧w.cell? ⟨b,off+i*13+3,none⟩=some (.slice c.ap c.np c.cp)∧w.cell? ⟨b,off+i*13+4,none⟩=some (.int .i64 c.par) ∧
  w.cell? ⟨b,off+i*13+5,none⟩=some (.int .i64 c.r0)∧w.cell? ⟨b,off+i*13+6,none⟩=some (.int .i64 c.r1)∧w.cell? ⟨b,off+i*13+7,none⟩=some (.int .i64 c.r2)∧w.cell? ⟨b,off+i*13+8,none⟩=some (.int .i64 c.r3)∧w.cell? ⟨b,off+i*13+9,none⟩=some (.int .i64 c.r4)∧w.cell? ⟨b,off+i*13+10,none⟩=some (.int .i64 c.r5)∧w.cell? ⟨b,off+i*13+11,none⟩=some (.int .i64 c.r6)∧w.cell? ⟨b,off+i*13+12,none⟩=some (.int .i64 c.r7):=by
 obtain⟨lc,⟨a,cap,rfl,hm,hx⟩,h2,h3⟩:=h;refine⟨a,cap,by rw[h2],by unfold maxLen at hm;omega,fun i hi=>?_⟩;have hi':i<lc.length:=by omega
 obtain⟨b,off,rfl,hc⟩:=hx (by intro e;subst e;simp at hi');have hn:=h3 i lc[i] l[i] (List.getElem?_eq_getElem hi') (List.getElem?_eq_getElem hi);have hj:=fun j u=>hc i lc[i] (List.getElem?_eq_getElem hi') j u
 have h0:=hj 0 _ rfl;exact⟨b,off,lc[i],rfl,Pre.mk (World.block_lt_of_cell? w _ h0),hn,h0,hj 1 _ rfl,hj 2 _ rfl,hj 3 _ rfl,hj 4 _ rfl,hj 5 _ rfl,hj 6 _ rfl,hj 7 _ rfl,hj 8 _ rfl,hj 9 _ rfl,hj 10 _ rfl,hj 11 _ rfl,hj 12 _ rfl⟩
theorem NodesAt.open'{w:World}{v:Value}{l:List Gr.Nd}(h:NodesAt w v l): ∃a cap,v = .slice a l.length cap∧l.length≤9223372036854775807∧∀i (hi:i<l.length),∃b off vf vp,a=some ⟨b,off,none⟩∧Pre b w∧IntsAt w vf l[i].frm∧ValsAt w vp l[i].prog ∧
  w.cell? ⟨b,off+i*13,none⟩=some (.int .i64 l[i].id)∧w.cell? ⟨b,off+i*13+1,none⟩=some (.int .i64 l[i].kind)∧w.cell? ⟨b,off+i*13+2,none⟩=some vf∧w.cell? ⟨b,off+i*13+3,none⟩=some vp∧w.cell? ⟨b,off+i*13+4,none⟩=some (.int .i64 l[i].par) ∧
  ∀g,g<8→w.cell? ⟨b,off+i*13+5+g,none⟩=some (.int .i64 (l[i].route.getD g 0)):=by
 obtain⟨a,cap,rfl,hm,hx⟩:=h.openC;refine⟨a,cap,rfl,hm,fun i hi=>?_⟩;obtain⟨b,off,c,rfl,hb,hn,c0,c1,c2,c3,c4,c5,c6,c7,c8,c9,c10,c11,c12⟩:=hx i hi;refine⟨b,off,c.vf,c.vp,rfl,hb,hn.f,hn.p,by rw[hn.id];exact c0,by rw[hn.kind];exact c1,c2,c3,by rw[hn.par];exact c4,fun g hg=>?_⟩;rw[hn.route];rcases (show g=0∨g=1∨g=2∨g=3∨g=4∨g=5∨g=6∨g=7 by omega) with rfl|rfl|rfl|rfl|rfl|rfl|rfl|rfl
 ·exact c5
 ·exact c6
 ·exact c7
 ·exact c8
 ·exact c9
 ·exact c10
 ·exact c11
 ·exact c12
theorem NodesAt.open13{w:World}{v:Value}{l:List Gr.Nd}(h:NodesAt w v l): ∃a cap,v = .slice a l.length cap∧l.length≤9223372036854775807∧∀i (hi:i<l.length),∃b off vf vp,a=some ⟨b,off,none⟩∧Pre b w∧IntsAt w vf l[i].frm∧ValsAt w vp l[i].prog ∧
  w.cell? ⟨b,off+i*13,none⟩=some (.int .i64 l[i].id)∧w.cell? ⟨b,off+i*13+1,none⟩=some (.int .i64 l[i].kind)∧w.cell? ⟨b,off+i*13+2,none⟩=some vf∧w.cell? ⟨b,off+i*13+3,none⟩=some vp∧w.cell? ⟨b,off+i*13+4,none⟩=some (.int .i64 l[i].par) ∧
  w.cell? ⟨b,off+i*13+5,none⟩=some (.int .i64 (l[i].route.getD 0 0))∧w.cell? ⟨b,off+i*13+6,none⟩=some (.int .i64 (l[i].route.getD 1 0))∧w.cell? ⟨b,off+i*13+7,none⟩=some (.int .i64 (l[i].route.getD 2 0))∧w.cell? ⟨b,off+i*13+8,none⟩=some (.int .i64 (l[i].route.getD 3 0)) ∧
  w.cell? ⟨b,off+i*13+9,none⟩=some (.int .i64 (l[i].route.getD 4 0))∧w.cell? ⟨b,off+i*13+10,none⟩=some (.int .i64 (l[i].route.getD 5 0))∧w.cell? ⟨b,off+i*13+11,none⟩=some (.int .i64 (l[i].route.getD 6 0))∧w.cell? ⟨b,off+i*13+12,none⟩=some (.int .i64 (l[i].route.getD 7 0)):=by
 obtain⟨a,cap,rfl,hm,hx⟩:=h.open';refine⟨a,cap,rfl,hm,fun i hi=>?_⟩;obtain⟨b,off,vf,vp,e,hb,hf,hp,c0,c1,c2,c3,c4,cr⟩:=hx i hi;exact⟨b,off,vf,vp,e,hb,hf,hp,c0,c1,c2,c3,c4,cr 0 (by decide),cr 1 (by decide),cr 2 (by decide),cr 3 (by decide),cr 4 (by decide),cr 5 (by decide),cr 6 (by decide),cr 7 (by decide)⟩
def findI(l:List Gr.Nd)(id:Int): Int:=match Gr.find l id with
 | some i=>i
 | none=>-1
theorem findI_at{l:List Gr.Nd}{id:Int}{k:Nat}(hk:k<l.length)(h:l[k].id=id)(hn:∀j (hj:j<l.length),j<k→l[j].id≠id): findI l id=k:=by
 unfold findI Gr.find;rw[List.findIdx?_eq_some_iff_getElem.2 ⟨hk,by simpa using h,fun j hj=>by simpa using hn j (by omega) hj⟩]
theorem findI_no{l:List Gr.Nd}{id:Int}(hn:∀j (hj:j<l.length),l[j].id≠id): findI l id = -1:=by
 unfold findI Gr.find
 rw[List.findIdx?_eq_none_iff.2 fun n hm=>by
  obtain⟨j,hj,rfl⟩:=List.mem_iff_getElem.1 hm
  simpa using hn j hj]
theorem ints_open{w:World}{v:Value}{l:List Int}(h:IntsAt w v l): ∃a cap,v = .slice a l.length cap∧l.length≤9223372036854775807∧∀i (hi:i<l.length),∃b off,a=some ⟨b,off,none⟩∧Pre b w∧w.cell? ⟨b,off+i,none⟩=some (.int .i64 l[i]):=by
 obtain⟨a,cap,rfl,hm,hl⟩:=h;refine⟨a,cap,rfl,by unfold maxLen at hm;omega,fun i hi=>?_⟩;obtain⟨b,off,rfl,hx⟩:=hl (by intro e;subst e;simp at hi);have h0:=hx i l[i] (List.getElem?_eq_getElem hi) 0 _ rfl;rw[Nat.mul_one,Nat.add_zero] at h0;exact⟨b,off,rfl,Pre.mk (World.block_lt_of_cell? w _ h0),h0⟩
theorem refFind08_any(v:Value)(l:List Gr.Nd)(id:Int)(w:World)(hv:NodesAt w v l): Calls Tryz.prog 63 #[v,.int .i64 id] w fun e w'=>e = .returned (.int .i64 (findI l id))∧w'=w:=by
 obtain⟨a,cap,rfl,hm,hx⟩:=hv.open';have HX:=hY hx;clear hx hv;go_enter Tryz.func63,Tryz.ntmps63;go_wp2
 go_loopw [5] (fun i wr=>∃k:Nat,k≤l.length∧i = .int .i64 k∧wr=w∧∀j (hj:j<l.length),j<k→l[j].id≠id) (fun i _=>l.length-(intOf i).toNat)
 case atStart=>exact⟨0,Nat.zero_le _,rfl,rfl,fun j _ h=>by omega⟩
 case round =>
  obtain⟨k,hk,rfl,rfl,hno⟩:=hrel;have HNO:=hY hno;clear hno;by_cases hlt:k<l.length
  ·obtain⟨b,off,vf,vp,rfl,hb,-,-,c0,-⟩:=HX.o k hlt;by_cases he:l[k].id=id
   ·have hf:=findI_at hlt he fun j hj h=>HNO.o j hj h
    have HF:=hY hf;clear hf;rw[he] at c0;clear he;go_wp2;refine bodyPost_ret (v:=.int .i64 k) (by simp[results,Tryz.results63,go_sem]) rfl (by rw[HF.o];first|exact⟨rfl,rfl⟩|exact⟨rfl,trivial⟩|trivial)
   ·have hbe:(l[k].id==id)=false:=by simpa using he
    have HNE:=hY he;clear he;generalize hgx:l[k].id=x at *;have HGX:=hY hgx;clear hgx;go_wp2
    go_roundw
    case rel=>exact⟨k+1,by omega,by go_num,trivial,fun j hj h=>by
     rcases Nat.lt_or_ge j k with h1|h1
     ·exact HNO.o j hj h1
     ·obtain rfl:j=k:=by omega
      rw[HGX.o]
      exact HNE.o⟩
    case measure=>first|(simp[intOf];done)|(simp[intOf];omega)
  ·obtain rfl:k=l.length:=by omega
   have hf:=findI_no fun j hj=>HNO.o j hj hj
   have HF:=hY hf;clear hf;go_wp2;refine bodyPost_ret (v:=.int .i64 (-1)) (by simp[results,Tryz.results63,go_sem]) rfl (by rw[HF.o];first|exact⟨rfl,rfl⟩|exact⟨rfl,trivial⟩|trivial)
theorem refHas08_any(v:Value)(l:List Int)(n:Int)(w:World)(hv:IntsAt w v l): Calls Tryz.prog 121 #[v,.int .i64 n] w fun e w'=>e = .returned (.bool (decide (n∈l)))∧w'=w:=by
 obtain⟨a,cap,rfl,hm,hx⟩:=ints_open hv;have HX:=hY hx;clear hx hv;go_enter Tryz.func121,Tryz.ntmps121;go_wp2
 go_loopw [5] (fun i wr=>∃k:Nat,k≤l.length∧i = .int .i64 k∧wr=w∧∀j (hj:j<l.length),j<k→l[j]≠n) (fun i _=>l.length-(intOf i).toNat)
 case atStart=>exact⟨0,Nat.zero_le _,rfl,rfl,fun j _ h=>by omega⟩
 case round =>
  obtain⟨k,hk,rfl,rfl,hno⟩:=hrel;have HNO:=hY hno;clear hno;by_cases hlt:k<l.length
  ·obtain⟨b,off,rfl,hb,c0⟩:=HX.o k hlt;by_cases he:l[k]=n
   ·have hf:n∈l:=he▸List.getElem_mem hlt;have HF:=hY hf;clear hf;rw[he] at c0;clear he;go_wp2;refine bodyPost_ret (v:=.bool true) (by simp[results,Tryz.results121,go_sem]) rfl (by rw[decide_eq_true HF.o];first|exact⟨rfl,rfl⟩|exact⟨rfl,trivial⟩|trivial)
   ·have hbe:(l[k]==n)=false:=by simpa using he
    have HNE:=hY he;clear he;generalize hgx:l[k]=x at *;have HGX:=hY hgx;clear hgx;go_wp2
    go_roundw
    case rel=>exact⟨k+1,by omega,by go_num,trivial,fun j hj h=>by
     rcases Nat.lt_or_ge j k with h1|h1
     ·exact HNO.o j hj h1
     ·obtain rfl:j=k:=by omega
      rw[HGX.o]
      exact HNE.o⟩
    case measure=>first|(simp[intOf];done)|(simp[intOf];omega)
  ·obtain rfl:k=l.length:=by omega
   have hf:n∉l:=fun q=>by
    obtain⟨j,hj,e⟩:=List.mem_iff_getElem.1 q;exact HNO.o j hj hj e
   have HF:=hY hf;clear hf;go_wp2;refine bodyPost_ret (v:=.bool false) (by simp[results,Tryz.results121,go_sem]) rfl (by rw[decide_eq_false HF.o];first|exact⟨rfl,rfl⟩|exact⟨rfl,trivial⟩|trivial)
structure StC where
 kind:Int
 c:NdC
 reset:Bool
instance:Inhabited StC:=⟨⟨0,default,false⟩⟩
def encSt(s:StC): List Value:=[.int .i64 s.kind,.int .i64 s.c.id,.int .i64 s.c.kind,.slice s.c.af s.c.nf s.c.cf,.slice s.c.ap s.c.np s.c.cp,.int .i64 s.c.par,.int .i64 s.c.r0,.int .i64 s.c.r1,.int .i64 s.c.r2,.int .i64 s.c.r3,.int .i64 s.c.r4,.int .i64 s.c.r5,.int .i64 s.c.r6,.int .i64 s.c.r7,.bool s.reset]
theorem encSt_len(s:StC): (encSt s).length=15:=rfl
theorem encSt_one(c:StC): ∀u∈encSt c,u.oneCell'=true:=by
 intro u hu;simp[encSt] at hu;rcases hu with rfl|rfl|rfl|rfl|rfl|rfl|rfl|rfl|rfl|rfl|rfl|rfl|rfl|rfl|rfl<;>rfl
structure StepIs (w:World) (c:StC) (s:Gr.Stp):Prop where
 kind:s.kind=c.kind
 nd:NodeIs w c.c s.nd
 reset:s.reset=c.reset
theorem StepIs.grew{w w':World}{c:StC}{s:Gr.Stp}(h:StepIs w c s)(g:Grew w w'): StepIs w' c s:={ h with nd:=h.nd.grew g }
def StepsAt(w:World)(v:Value)(l:List Gr.Stp): Prop:=∃lc:List StC,RowsAt 15 encSt w v lc∧lc.length=l.length∧∀(i:Nat) (c:StC) (s:Gr.Stp),lc[i]? = some c→l[i]? = some s→StepIs w c s
theorem StepsAt.grew{w w':World}{v:Value}{l:List Gr.Stp}(h:StepsAt w v l)(g:Grew w w'): StepsAt w' v l:=by
 obtain⟨lc,h1,h2,h3⟩:=h;exact⟨lc,h1.grew g,h2,fun i c n hc hn=>(h3 i c n hc hn).grew g⟩
theorem StepsAt.nil(w:World): StepsAt w (.slice none 0 0) []:=⟨[],RowsAt.nil,rfl,fun i c n h=>by simp at h⟩
theorem StepsAt.r8{w:World}{v:Value}{l:List Gr.Stp}(h:StepsAt w v l): ∀s∈l,s.nd.route.length=8:=by
 obtain⟨lc,-,h2,h3⟩:=h;intro n hn;obtain⟨i,hi,rfl⟩:=List.mem_iff_getElem.1 hn;rw[(h3 i lc[i] l[i] (List.getElem?_eq_getElem (by omega)) (List.getElem?_eq_getElem hi)).nd.route];rfl
theorem StepsAt.openC{w:World}{v:Value}{l:List Gr.Stp}(h:StepsAt w v l): ∃a cap,v = .slice a l.length cap∧l.length≤9223372036854775807∧∀i (hi:i<l.length),∃b off c,a=some ⟨b,off,none⟩∧Pre b w∧StepIs w c l[i] ∧
  w.cell? ⟨b,off+i*15,none⟩=some (.int .i64 c.kind) ∧
  w.cell? ⟨b,off+i*15+1,none⟩=some (.int .i64 c.c.id) ∧
  w.cell? ⟨b,off+i*15+2,none⟩=some (.int .i64 c.c.kind) ∧
  w.cell? ⟨b,off+i*15+3,none⟩=some (.slice c.c.af c.c.nf c.c.cf) ∧
  w.cell? ⟨b,off+i*15+4,none⟩=some (.slice c.c.ap c.c.np c.c.cp) ∧
  w.cell? ⟨b,off+i*15+5,none⟩=some (.int .i64 c.c.par) ∧
  w.cell? ⟨b,off+i*15+6,none⟩=some (.int .i64 c.c.r0) ∧
  w.cell? ⟨b,off+i*15+7,none⟩=some (.int .i64 c.c.r1) ∧
  w.cell? ⟨b,off+i*15+8,none⟩=some (.int .i64 c.c.r2) ∧
  w.cell? ⟨b,off+i*15+9,none⟩=some (.int .i64 c.c.r3) ∧
  w.cell? ⟨b,off+i*15+10,none⟩=some (.int .i64 c.c.r4) ∧
  w.cell? ⟨b,off+i*15+11,none⟩=some (.int .i64 c.c.r5) ∧
  w.cell? ⟨b,off+i*15+12,none⟩=some (.int .i64 c.c.r6) ∧
  w.cell? ⟨b,off+i*15+13,none⟩=some (.int .i64 c.c.r7) ∧
  w.cell? ⟨b,off+i*15+14,none⟩=some (.bool c.reset):=by
 obtain⟨lc,⟨a,cap,rfl,hm,hx⟩,h2,h3⟩:=h;refine⟨a,cap,by rw[h2],by unfold maxLen at hm;omega,fun i hi=>?_⟩;have hi':i<lc.length:=by omega
 obtain⟨b,off,rfl,hc⟩:=hx (by intro e;subst e;simp at hi');have hn:=h3 i lc[i] l[i] (List.getElem?_eq_getElem hi') (List.getElem?_eq_getElem hi);have hj:=fun j u=>hc i lc[i] (List.getElem?_eq_getElem hi') j u
 have h0:=hj 0 _ rfl;exact⟨b,off,lc[i],rfl,Pre.mk (World.block_lt_of_cell? w _ h0),hn,h0,hj 1 _ rfl,hj 2 _ rfl,hj 3 _ rfl,hj 4 _ rfl,hj 5 _ rfl,hj 6 _ rfl,hj 7 _ rfl,hj 8 _ rfl,hj 9 _ rfl,hj 10 _ rfl,hj 11 _ rfl,hj 12 _ rfl,hj 13 _ rfl,hj 14 _ rfl⟩
theorem StepIs.lit{w:World}{c:StC}{s:Gr.Stp}(h:StepIs w c s): ∃kind reset id kd af cf ap cp par r0 r1 r2 r3 r4 r5 r6 r7,c=⟨kind,⟨id,kd,af,s.nd.frm.length,cf,ap,s.nd.prog.length,cp,par,r0,r1,r2,r3,r4,r5,r6,r7⟩,reset⟩:=by
 obtain⟨kind,c,reset⟩:=c;obtain⟨id,kd,af,cf,ap,cp,par,r0,r1,r2,r3,r4,r5,r6,r7,e⟩:=h.nd.lit;simp only at e;subst e;exact⟨_,_,_,_,_,_,_,_,_,_,_,_,_,_,_,_,_,rfl⟩
theorem NodesAt.one{w:World}{c:NdC}{n:Gr.Nd}(h:NodeIs w c n)(k:Nat)(hk:k=w.heap.size)(cs:List Value)(hcs:cs=encNd c): NodesAt (w.alloc (.cells cs.toArray 52)) (.slice (some ⟨k,0,none⟩) 1 1) [n]:=by
 refine⟨[c],RowsAt.fresh (l:=[c]) rfl (by simp[maxLen]) encNd_len hk (by rw[hcs];simp),rfl,?_⟩;intro i c' n' h1 h2
 match i with
 |0 =>
  cases h1;cases h2
  exact h.grew ((Grew.refl _).alloc _)
 | i+1=>cases h1
theorem findI_none{l:List Gr.Nd}{id:Int}(h:Gr.find l id=none): findI l id = -1:=by unfold findI;rw[h]
theorem findI_some{l:List Gr.Nd}{id:Int}{i:Nat}(h:Gr.find l id=some i): findI l id=i∧i<l.length:=by
 obtain⟨m,hm,-⟩:=Gr.find_some h;exact⟨by unfold findI;rw[h],(List.getElem?_eq_some_iff.1 hm).1⟩
theorem refAbove08_any(v:Value)(l:List Gr.Nd)(w:World)(hv:NodesAt w v l): ∀(k:Nat),k≤1000→∀(fr tgt:Int),Calls Tryz.prog 122 #[v,.int .i64 fr,.int .i64 tgt,.int .i64 k] w fun e w'=>e = .returned (.bool (Gr.above l fr tgt k))∧w'=w
 |0,_,fr,tgt=>by
  have HV:=hY hv;clear hv
  cases hf:Gr.find l fr with
  |none =>
   have hi:=findI_none hf;have HI:=hY hi;clear hi hf;go_enter Tryz.func122,Tryz.ntmps122
   go_wp2_with (go_at_call 63;refine(refFind08_any _ l fr _ HV.o).mono ?_;rintro e w1 ⟨rfl,hw1⟩;obtain rfl:=hw1.symm;rw[HI.o])
   refine bodyPost_ret (v:=.bool false) (by simp[results,Tryz.results122,go_sem]) rfl (by first|exact⟨rfl,rfl⟩|exact⟨rfl,trivial⟩|trivial)
  |some i =>
   obtain⟨hi,hil⟩:=findI_some hf;have hi0:¬((i:Int)<0):=by omega
   have HI:=hY hi;clear hi hf;go_enter Tryz.func122,Tryz.ntmps122
   go_wp2_with (go_at_call 63;refine(refFind08_any _ l fr _ HV.o).mono ?_;rintro e w1 ⟨rfl,hw1⟩;obtain rfl:=hw1.symm;rw[HI.o])
   refine bodyPost_ret (v:=.bool false) (by simp[results,Tryz.results122,go_sem]) rfl (by first|exact⟨rfl,rfl⟩|exact⟨rfl,trivial⟩|trivial)
 |k+1,hk,fr,tgt=>by
  have HIH:=hY (fun(f:Int)=>refAbove08_any v l w hv k (by omega) f tgt);have HV:=hY hv;have hw:IntKind.i64.wrap (k:Int)=(k:Int):=IntWalk.i64_in _ (by omega);have hk1:¬((k:Int)+1=0):=by omega
  have hk2:((k:Int)+1==0)=false:=by simpa using hk1
  cases hf:Gr.find l fr with
  |none =>
   have hab:Gr.above l fr tgt (k+1)=false:=by rw[Gr.above,hf];rfl
   have hi:=findI_none hf;have HI:=hY hi;have HAB:=hY hab;clear hi hf hab hv;go_enter Tryz.func122,Tryz.ntmps122
   go_wp2_with (go_at_call 63;refine(refFind08_any _ l fr _ HV.o).mono ?_;rintro e w1 ⟨rfl,hw1⟩;obtain rfl:=hw1.symm;rw[HI.o])
   refine bodyPost_ret (v:=.bool false) (by simp[results,Tryz.results122,go_sem]) rfl (by rw[HAB.o];first|exact⟨rfl,rfl⟩|exact⟨rfl,trivial⟩|trivial)
  |some i =>
   obtain⟨hi,hil⟩:=findI_some hf
   have hab:Gr.above l fr tgt (k+1)=l[i].frm.any fun f=>f==tgt||Gr.above l f tgt k:=by
    rw[Gr.above,hf,Option.bind_some,List.getElem?_eq_getElem hil]
   obtain⟨a,cap,rfl,hm,hx⟩:=hv.open';obtain⟨b,off,vf,vp,rfl,hb,hvf,-,-,-,cf,-⟩:=hx i hil;obtain⟨af,capf,rfl,hmf,hxf⟩:=ints_open hvf;generalize l[i].frm=fl at *;have hi0:¬((i:Int)<0):=by omega
   have HI:=hY hi;have HAB:=hY hab;have HXF:=hY hxf;clear hi hf hab hv hx hvf hxf;go_enter Tryz.func122,Tryz.ntmps122
   go_wp2_with (go_at_call 63;refine(refFind08_any _ l fr _ HV.o).mono ?_;rintro e w1 ⟨rfl,hw1⟩;obtain rfl:=hw1.symm;rw[HI.o])
   go_loopw [10] (fun x wr=>∃j:Nat,j≤fl.length∧x = .int .i64 j∧wr=w∧∀t (ht:t<fl.length),t<j→(fl[t]==tgt||Gr.above l fl[t] tgt k)=false) (fun x _=>fl.length-(intOf x).toNat)
   case atStart=>exact⟨0,Nat.zero_le _,rfl,rfl,fun j _ h=>by omega⟩
   case round =>
    obtain⟨j,hj,rfl,hwr,hno⟩:=hrel;obtain rfl:=hwr.symm;have HNO:=hY hno;clear hno;by_cases hlt:j<fl.length
    ·obtain⟨bf,offf,rfl,hbf,c0⟩:=HXF.o j hlt;cases hq:(fl[j]==tgt||Gr.above l fl[j] tgt k)
     ·have HQ:=hY hq;simp only[Bool.or_eq_false_iff] at hq;obtain⟨hq1,hq2⟩:=hq;have HQ2:=hY hq2;clear hq2;generalize hgx:fl[j]=x at *;have HGX:=hY hgx;clear hgx
      go_wp2_with (go_at_call 122;refine(HIH.o x).mono ?_;rintro e w1 ⟨rfl,hw1⟩;obtain rfl:=hw1.symm;rw[HQ2.o])
      go_roundw
      case rel=>exact⟨j+1,by omega,by go_num,trivial,fun t ht h=>by
       rcases Nat.lt_or_ge t j with h1|h1
       ·exact HNO.o t ht h1
       ·obtain rfl:t=j:=by omega
        rw[HGX.o]
        exact HQ.o⟩
      case measure=>first|(simp[intOf];done)|(simp[intOf];omega)
     ·have hany:Gr.above l fr tgt (k+1)=true:=by
       rw[HAB.o,List.any_eq_true];exact⟨fl[j],List.getElem_mem hlt,hq⟩
      have HANY:=hY hany;clear hany;by_cases he:fl[j]=tgt
      ·rw[he] at c0;clear hq he;go_wp2;refine bodyPost_ret (v:=.bool true) (by simp[results,Tryz.results122,go_sem]) rfl (by rw[HANY.o];first|exact⟨rfl,rfl⟩|exact⟨rfl,trivial⟩|trivial)
      ·have hq1:(fl[j]==tgt)=false:=by simpa using he
       rw[hq1,Bool.false_or] at hq;have HQ2:=hY hq;clear hq he;generalize fl[j]=x at *
       go_wp2_with (go_at_call 122;refine(HIH.o x).mono ?_;rintro e w1 ⟨rfl,hw1⟩;obtain rfl:=hw1.symm;rw[HQ2.o])
       refine bodyPost_ret (v:=.bool true) (by simp[results,Tryz.results122,go_sem]) rfl (by rw[HANY.o];first|exact⟨rfl,rfl⟩|exact⟨rfl,trivial⟩|trivial)
    ·obtain rfl:j=fl.length:=by omega
     have hany:Gr.above l fr tgt (k+1)=false:=by
      rw[HAB.o,List.any_eq_false];intro x hx;obtain⟨t,ht,rfl⟩:=List.mem_iff_getElem.1 hx;rw[HNO.o t ht ht];simp
     have HANY:=hY hany;clear hany;go_wp2;refine bodyPost_ret (v:=.bool false) (by simp[results,Tryz.results122,go_sem]) rfl (by rw[HANY.o];first|exact⟨rfl,rfl⟩|exact⟨rfl,trivial⟩|trivial)
theorem eqInts_any(v u:Value)(l m:List Int)(w:World)(hv:IntsAt w v l)(hu:IntsAt w u m): Calls Tryz.prog 69 #[v,u] w (Gives (.bool (decide (l=m))) w):=by
 have HV:=hY hv;have HU:=hY hu;obtain⟨a,cap,rfl,hm,-⟩:=ints_open hv;obtain⟨a2,cap2,rfl,hm2,-⟩:=ints_open hu;clear hv hu;by_cases hlen:l.length=m.length
 ·have hD2:((l.length:Int) != (m.length:Int))=false:=by rw[hlen];simp
  have HLEN:=hY hlen;clear hlen;go_enter Tryz.func69,Tryz.ntmps69;go_wp2
  go_loopg [13] l.length (fun gg s13 wr=>∃g:Nat,g≤l.length∧l.length-g≤gg∧s13 = .int .i64 g∧Hid (Grew w wr)∧Hid (l.take g=m.take g))
  case atStart=>exact⟨0,by omega,by omega,rfl,hY gw,hY rfl⟩
  case round =>
   obtain⟨g,hg8,hgg,rfl,HGR,HNO⟩:=hrel;by_cases hlt:g<l.length
   ·have hlt2:g<m.length:=by have:=HLEN.o;omega
    obtain⟨av,cv,e,-,hx⟩:=ints_open (HV.o.grew HGR.o);cases e;obtain⟨av2,cv2,e,-,hx2⟩:=ints_open (HU.o.grew HGR.o);cases e;obtain⟨b,off,rfl,hb,cx⟩:=hx g hlt;obtain⟨b2,off2,rfl,hb2,dx⟩:=hx2 g hlt2;have hs:=take_eq_succ hlt hlt2 HNO.o;have hf:=neq_at hlt hlt2;have HS:=hY hs;have HF:=hY hf;clear hx hx2 hs hf;generalize l[g]=x at *;generalize m[g]=y at *;by_cases hr:x=y
    ·cases hr
     go_upto_region 6 with fail
     go_quiet (fail)
     go_wp2
     go_roundg (l.length-(g+1))
     case measure=>omega
     case rel=>exact⟨g+1,by omega,by omega,by go_num,hY (HGR.o.trans gw),hY (HS.o (by first|exact rfl|trivial))⟩
    ·have HR:=hY hr;have hfin:decide (l=m)=false:=decide_eq_false (HF.o hr);have HFIN:=hY hfin;have hne:(x != y)=true:=by rw[bne_iff_ne];exact hr
     clear hr hfin
     go_upto_region 6 with fail
     go_quiet (fail)
     go_wp2;go_ret;exact⟨by rw[HFIN.o];rfl,HGR.o.trans gw⟩
   ·obtain rfl:g=l.length:=by omega
    have hz:=HNO.o;rw[List.take_length,List.take_of_length_le (by have:=HLEN.o;omega)] at hz;have hfin:decide (l=m)=true:=decide_eq_true hz;have HFIN:=hY hfin;clear hz hfin;go_wp2;go_ret;exact⟨by rw[HFIN.o];rfl,HGR.o⟩
 ·have hD2:((l.length:Int) != (m.length:Int))=true:=by rw[bne_iff_ne];omega
  have hfin:decide (l=m)=false:=decide_eq_false fun h=>hlen (by rw[h])
  have HFIN:=hY hfin;clear hfin hlen;go_enter Tryz.func69,Tryz.ntmps69;go_wp2;go_ret;exact⟨by rw[HFIN.o];rfl,gw⟩
theorem eqVals_any(v u:Value)(l m:List Val)(w:World)(hv:ValsAt w v l)(hu:ValsAt w u m): Calls Tryz.prog 118 #[v,u] w (Gives (.bool (decide (l=m))) w):=by
 have HV:=hY hv;have HU:=hY hu;obtain⟨a,cap,rfl,hm,-⟩:=hv.open2;obtain⟨a2,cap2,rfl,hm2,-⟩:=hu.open2;clear hv hu;by_cases hlen:l.length=m.length
 ·have hD2:((l.length:Int) != (m.length:Int))=false:=by rw[hlen];simp
  have HLEN:=hY hlen;clear hlen;go_enter Tryz.func118,Tryz.ntmps118;go_wp2
  go_loopg [13] l.length (fun gg s13 wr=>∃g:Nat,g≤l.length∧l.length-g≤gg∧s13 = .int .i64 g∧Hid (Grew w wr)∧Hid (l.take g=m.take g))
  case atStart=>exact⟨0,by omega,by omega,rfl,hY gw,hY rfl⟩
  case round =>
   obtain⟨g,hg8,hgg,rfl,HGR,HNO⟩:=hrel;by_cases hlt:g<l.length
   ·have hlt2:g<m.length:=by have:=HLEN.o;omega
    obtain⟨av,cv,e,-,hx⟩:=(HV.o.grew HGR.o).open2;cases e;obtain⟨av2,cv2,e,-,hx2⟩:=(HU.o.grew HGR.o).open2;cases e;obtain⟨b,off,rfl,hb,cx,cy⟩:=hx g hlt;obtain⟨b2,off2,rfl,hb2,dx,dy⟩:=hx2 g hlt2;have hs:=take_eq_succ hlt hlt2 HNO.o;have hf:=neq_at hlt hlt2;have HS:=hY hs;have HF:=hY hf;clear hx hx2 hs hf;generalize l[g]=x at *;generalize m[g]=y at *;obtain⟨x,x'⟩:=x;obtain⟨y,y'⟩:=y;simp only at cx cy dx dy;by_cases hr:((x,x'):Val)=(y,y')
    ·cases hr
     go_upto_region 6 with fail
     go_quiet (fail)
     go_wp2
     go_roundg (l.length-(g+1))
     case measure=>omega
     case rel=>exact⟨g+1,by omega,by omega,by go_num,hY (HGR.o.trans gw),hY (HS.o (by first|exact rfl|trivial))⟩
    ·have HR:=hY hr;have hfin:decide (l=m)=false:=decide_eq_false (HF.o hr);have HFIN:=hY hfin
     have hq:=run_neq_ins x x' y y' true (by
      have:=HR.o;by_cases e1:x=y<;>by_cases e2:x'=y'<;>simp[e1,e2]
      exact this (by rw[e1,e2]))
     clear hr hfin
     go_upto_region 6 with fail
     go_quiet (fail)
     go_wp2;go_ret;exact⟨by rw[HFIN.o];rfl,HGR.o.trans gw⟩
   ·obtain rfl:g=l.length:=by omega
    have hz:=HNO.o;rw[List.take_length,List.take_of_length_le (by have:=HLEN.o;omega)] at hz;have hfin:decide (l=m)=true:=decide_eq_true hz;have HFIN:=hY hfin;clear hz hfin;go_wp2;go_ret;exact⟨by rw[HFIN.o];rfl,HGR.o⟩
 ·have hD2:((l.length:Int) != (m.length:Int))=true:=by rw[bne_iff_ne];omega
  have hfin:decide (l=m)=false:=decide_eq_false fun h=>hlen (by rw[h])
  have HFIN:=hY hfin;clear hfin hlen;go_enter Tryz.func118,Tryz.ntmps118;go_wp2;go_ret;exact⟨by rw[HFIN.o];rfl,gw⟩
def zeroNd(id:Int): NdC:=⟨id,0,none,0,0,none,0,0,0,0,0,0,0,0,0,0,0⟩
def cleanC(c:StC): StC :=
 if c.kind=1 then ⟨1,{ zeroNd c.c.id with ap:=c.c.ap,np:=c.c.np,cp:=c.c.cp },c.reset⟩
 else if c.kind=2 then ⟨2,c.c,false⟩
 else if c.kind=3 then ⟨3,zeroNd c.c.id,false⟩
 else if c.kind=4 then ⟨4,⟨c.c.id,0,none,0,0,none,0,0,c.c.par,c.c.r0,c.c.r1,c.c.r2,c.c.r3,c.c.r4,c.c.r5,c.c.r6,c.c.r7⟩,false⟩
 else if c.kind=5 then ⟨5,{ zeroNd c.c.id with af:=c.c.af,nf:=c.c.nf,cf:=c.c.cf },false⟩
 else ⟨0,zeroNd 0,false⟩
theorem StepIs.clean{w:World}{c:StC}{s:Gr.Stp}(h:StepIs w c s): StepIs w (cleanC c) (Gr.cleanS s):=by
 obtain⟨hk,hn,hr⟩:=h;unfold cleanC Gr.cleanS;rw[hk];by_cases h1:c.kind=1
 ·rw[if_pos h1,if_pos h1];exact⟨rfl,⟨hn.id,rfl,RowsAt.nil,hn.p,rfl,rfl,Nat.zero_le _⟩,hr⟩
 rw[if_neg h1,if_neg h1];by_cases h2:c.kind=2
 ·rw[if_pos h2,if_pos h2];exact⟨rfl,hn,rfl⟩
 rw[if_neg h2,if_neg h2];by_cases h3:c.kind=3
 ·rw[if_pos h3,if_pos h3];exact⟨rfl,⟨hn.id,rfl,RowsAt.nil,RowsAt.nil,rfl,rfl,Nat.zero_le _⟩,rfl⟩
 rw[if_neg h3,if_neg h3];by_cases h4:c.kind=4
 ·rw[if_pos h4,if_pos h4];exact⟨rfl,⟨hn.id,rfl,RowsAt.nil,RowsAt.nil,hn.par,hn.route,Nat.zero_le _⟩,rfl⟩
 rw[if_neg h4,if_neg h4];by_cases h5:c.kind=5
 ·rw[if_pos h5,if_pos h5];exact⟨rfl,⟨hn.id,rfl,hn.f,RowsAt.nil,rfl,rfl,hn.fc⟩,rfl⟩
 rw[if_neg h5,if_neg h5];exact⟨rfl,⟨rfl,rfl,RowsAt.nil,RowsAt.nil,rfl,rfl,Nat.zero_le _⟩,rfl⟩
theorem res_clean13{W:World}{tmps:Array Value}{q:Nat}{v0 v1 v2 v3 v4 v5 v6 v7 v8 v9 v10 v11 v12 v13 v14:Value}(ht:tmps[2]? = some (.pointer (some ⟨q,0,none⟩)))(h:W.heap[q]? = some (.cells #[v0,v1,v2,v3,v4,v5,v6,v7,v8,v9,v10,v11,v12,v13,v14] 69)):
  (results Tryz.f65 tmps).run Tryz.prog W = .ok (.agg #[v0,v1,v2,v3,v4,v5,v6,v7,v8,v9,v10,v11,v12,v13,v14]) W:=by
 have c0:=cell_of (o:=0) h;have c1:=cell_of (o:=1) h;have c2:=cell_of (o:=2) h;have c3:=cell_of (o:=3) h;have c4:=cell_of (o:=4) h;have c5:=cell_of (o:=5) h;have c6:=cell_of (o:=6) h;have c7:=cell_of (o:=7) h;have c8:=cell_of (o:=8) h;have c9:=cell_of (o:=9) h;have c10:=cell_of (o:=10) h;have c11:=cell_of (o:=11) h;have c12:=cell_of (o:=12) h;have c13:=cell_of (o:=13) h;have c14:=cell_of (o:=14) h;simp at c0 c1 c2 c3 c4 c5 c6 c7 c8 c9 c10 c11 c12 c13 c14;simp[results,Tryz.results65,go_sem,ht,c0,c1,c2,c3,c4,c5,c6,c7,c8,c9,c10,c11,c12,c13,c14]
theorem clean13_1(id kd par r0 r1 r2 r3 r4 r5 r6 r7:Int)(af ap:Option Addr)(nf cf np cp:Nat)(reset:Bool)(w:World): Calls Tryz.prog 65 #[.agg #[.int .i64 1,.int .i64 id,.int .i64 kd,.slice af nf cf,.slice ap np cp,.int .i64 par,.int .i64 r0,.int .i64 r1,.int .i64 r2,.int .i64 r3,.int .i64 r4,.int .i64 r5,.int .i64 r6,.int .i64 r7,.bool reset]] w (Gives (.agg #[.int .i64 1,.int .i64 id,.int .i64 0,.slice none 0 0,.slice ap np cp,.int .i64 0,.int .i64 0,.int .i64 0,.int .i64 0,.int .i64 0,.int .i64 0,.int .i64 0,.int .i64 0,.int .i64 0,.bool reset]) w):=by
 go_enter Tryz.func65,Tryz.ntmps65;go_wp2;refine bodyPost_ret (res_clean13 rfl ?_) rfl ⟨rfl,?_⟩
 ·exact heap_alloc' (heap_new_at (w.alloc _) _ _ (by simp[World.size_alloc])) _
 ·exact gw
theorem clean13_2(id kd par r0 r1 r2 r3 r4 r5 r6 r7:Int)(af ap:Option Addr)(nf cf np cp:Nat)(reset:Bool)(w:World): Calls Tryz.prog 65 #[.agg #[.int .i64 2,.int .i64 id,.int .i64 kd,.slice af nf cf,.slice ap np cp,.int .i64 par,.int .i64 r0,.int .i64 r1,.int .i64 r2,.int .i64 r3,.int .i64 r4,.int .i64 r5,.int .i64 r6,.int .i64 r7,.bool reset]] w (Gives (.agg #[.int .i64 2,.int .i64 id,.int .i64 kd,.slice af nf cf,.slice ap np cp,.int .i64 par,.int .i64 r0,.int .i64 r1,.int .i64 r2,.int .i64 r3,.int .i64 r4,.int .i64 r5,.int .i64 r6,.int .i64 r7,.bool false]) w):=by
 go_enter Tryz.func65,Tryz.ntmps65;go_wp2;refine bodyPost_ret (res_clean13 rfl ?_) rfl ⟨rfl,?_⟩
 ·exact heap_alloc' (heap_new_at (w.alloc _) _ _ (by simp[World.size_alloc])) _
 ·exact gw
theorem clean13_3(id kd par r0 r1 r2 r3 r4 r5 r6 r7:Int)(af ap:Option Addr)(nf cf np cp:Nat)(reset:Bool)(w:World): Calls Tryz.prog 65 #[.agg #[.int .i64 3,.int .i64 id,.int .i64 kd,.slice af nf cf,.slice ap np cp,.int .i64 par,.int .i64 r0,.int .i64 r1,.int .i64 r2,.int .i64 r3,.int .i64 r4,.int .i64 r5,.int .i64 r6,.int .i64 r7,.bool reset]] w (Gives (.agg #[.int .i64 3,.int .i64 id,.int .i64 0,.slice none 0 0,.slice none 0 0,.int .i64 0,.int .i64 0,.int .i64 0,.int .i64 0,.int .i64 0,.int .i64 0,.int .i64 0,.int .i64 0,.int .i64 0,.bool false]) w):=by
 go_enter Tryz.func65,Tryz.ntmps65;go_wp2;refine bodyPost_ret (res_clean13 rfl ?_) rfl ⟨rfl,?_⟩
 ·exact heap_alloc' (heap_new_at (w.alloc _) _ _ (by simp[World.size_alloc])) _
 ·exact gw
theorem clean13_4(id kd par r0 r1 r2 r3 r4 r5 r6 r7:Int)(af ap:Option Addr)(nf cf np cp:Nat)(reset:Bool)(w:World): Calls Tryz.prog 65 #[.agg #[.int .i64 4,.int .i64 id,.int .i64 kd,.slice af nf cf,.slice ap np cp,.int .i64 par,.int .i64 r0,.int .i64 r1,.int .i64 r2,.int .i64 r3,.int .i64 r4,.int .i64 r5,.int .i64 r6,.int .i64 r7,.bool reset]] w (Gives (.agg #[.int .i64 4,.int .i64 id,.int .i64 0,.slice none 0 0,.slice none 0 0,.int .i64 par,.int .i64 r0,.int .i64 r1,.int .i64 r2,.int .i64 r3,.int .i64 r4,.int .i64 r5,.int .i64 r6,.int .i64 r7,.bool false]) w):=by
 go_enter Tryz.func65,Tryz.ntmps65
 go_upto_region 9 with fail
 go_region
 all_goals
  go_wp2;refine bodyPost_ret (res_clean13 rfl ?_) rfl ⟨rfl,?_⟩
  ·exact heap_alloc' (heap_new_at (w.alloc _) _ _ (by simp[World.size_alloc])) _
  ·exact gw
theorem clean13_5(id kd par r0 r1 r2 r3 r4 r5 r6 r7:Int)(af ap:Option Addr)(nf cf np cp:Nat)(reset:Bool)(w:World): Calls Tryz.prog 65 #[.agg #[.int .i64 5,.int .i64 id,.int .i64 kd,.slice af nf cf,.slice ap np cp,.int .i64 par,.int .i64 r0,.int .i64 r1,.int .i64 r2,.int .i64 r3,.int .i64 r4,.int .i64 r5,.int .i64 r6,.int .i64 r7,.bool reset]] w (Gives (.agg #[.int .i64 5,.int .i64 id,.int .i64 0,.slice af nf cf,.slice none 0 0,.int .i64 0,.int .i64 0,.int .i64 0,.int .i64 0,.int .i64 0,.int .i64 0,.int .i64 0,.int .i64 0,.int .i64 0,.bool false]) w):=by
 go_enter Tryz.func65,Tryz.ntmps65;go_wp2;refine bodyPost_ret (res_clean13 rfl ?_) rfl ⟨rfl,?_⟩
 ·exact heap_alloc' (heap_new_at (w.alloc _) _ _ (by simp[World.size_alloc])) _
 ·exact gw
theorem clean13_any(c:StC)(w:World)(hk:1≤c.kind∧c.kind≤5): Calls Tryz.prog 65 #[.agg #[.int .i64 c.kind,.int .i64 c.c.id,.int .i64 c.c.kind,.slice c.c.af c.c.nf c.c.cf,.slice c.c.ap c.c.np c.c.cp,.int .i64 c.c.par,.int .i64 c.c.r0,.int .i64 c.c.r1,.int .i64 c.c.r2,.int .i64 c.c.r3,.int .i64 c.c.r4,.int .i64 c.c.r5,.int .i64 c.c.r6,.int .i64 c.c.r7,.bool c.reset]] w (Gives (.agg #[.int .i64 (cleanC c).kind,.int .i64 (cleanC c).c.id,.int .i64 (cleanC c).c.kind,.slice (cleanC c).c.af (cleanC c).c.nf (cleanC c).c.cf,.slice (cleanC c).c.ap (cleanC c).c.np (cleanC c).c.cp,.int .i64 (cleanC c).c.par,.int .i64 (cleanC c).c.r0,.int .i64 (cleanC c).c.r1,.int .i64 (cleanC c).c.r2,.int .i64 (cleanC c).c.r3,.int .i64 (cleanC c).c.r4,.int .i64 (cleanC c).c.r5,.int .i64 (cleanC c).c.r6,.int .i64 (cleanC c).c.r7,.bool (cleanC c).reset]) w):=by
 obtain⟨kind,⟨id,kd,af,nf,cf,ap,np,cp,par,r0,r1,r2,r3,r4,r5,r6,r7⟩,reset⟩:=c;simp only at hk;rcases (show kind=1∨kind=2∨kind=3∨kind=4∨kind=5 by omega) with rfl|rfl|rfl|rfl|rfl
 ·exact clean13_1 id kd par r0 r1 r2 r3 r4 r5 r6 r7 af ap nf cf np cp reset w
 ·exact clean13_2 id kd par r0 r1 r2 r3 r4 r5 r6 r7 af ap nf cf np cp reset w
 ·exact clean13_3 id kd par r0 r1 r2 r3 r4 r5 r6 r7 af ap nf cf np cp reset w
 ·exact clean13_4 id kd par r0 r1 r2 r3 r4 r5 r6 r7 af ap nf cf np cp reset w
 ·exact clean13_5 id kd par r0 r1 r2 r3 r4 r5 r6 r7 af ap nf cf np cp reset w
def greatN(n:Gr.Nd): Bool:=decide (60<n.prog.length)||decide (20<n.frm.length)
def greatG(l:List Gr.Nd): Bool:=decide (20<l.length)||l.any greatN
theorem great08_any(v:Value)(l:List Gr.Nd)(w:World)(hv:NodesAt w v l): Calls Tryz.prog 28 #[v] w (Gives (.bool (greatG l)) w):=by
 obtain⟨a,cap,rfl,hm,-⟩:=hv.open13;have HV:=hY hv;clear hv;by_cases h20:20<l.length
 ·have hg:greatG l=true:=by unfold greatG;rw[decide_eq_true h20];rfl
  have HG:=hY hg;clear hg;have h20':(20:Int)<(l.length:Int):=by omega
  go_enter Tryz.func28,Tryz.ntmps28;go_wp2;go_ret;refine⟨by rw[HG.o];rfl,?_⟩;exact gw
 ·have hg0:greatG l=l.any greatN:=by unfold greatG;rw[decide_eq_false h20];rfl
  have HG0:=hY hg0;clear hg0;go_enter Tryz.func28,Tryz.ntmps28;go_wp2
  go_loopw [10] (fun i wr=>∃k:Nat,k≤l.length∧i = .int .i64 k∧Grew w wr∧∀j (hj:j<l.length),j<k→greatN l[j]=false) (fun i _=>l.length-(intOf i).toNat)
  case atStart=>exact⟨0,Nat.zero_le _,rfl,gw,fun j _ h=>by omega⟩
  case round =>
   obtain⟨k,hk,rfl,hgw,hno⟩:=hrel;have HNO:=hY hno;have HGW:=hY hgw;by_cases hlt:k<l.length
   ·obtain⟨a',cap',e',-,hx⟩:=(HV.o.grew hgw).open13;cases e';obtain⟨b,off,vf,vp,rfl,hb,hvf,hvp,c0,c1,c2,c3,c4,c5,c6,c7,c8,c9,c10,c11,c12⟩:=hx k hlt;obtain⟨af,capf,rfl,hmf,-⟩:=ints_open hvf;obtain⟨ap,capp,rfl,hmp,-⟩:=hvp.open2;clear hx hvf hvp hgw hno;cases hq:greatN l[k]
    ·have HQ:=hY hq;unfold greatN at hq;simp only[Bool.or_eq_false_iff,decide_eq_false_iff_not] at hq;obtain⟨q1,q2⟩:=hq;generalize hgx:l[k]=x at *;have HGX:=hY hgx;clear hgx;go_wp2
     go_roundw
     case rel=>exact⟨k+1,by omega,by go_num,HGW.o.trans gw,fun j hj h=>by
      rcases Nat.lt_or_ge j k with h1|h1
      ·exact HNO.o j hj h1
      ·obtain rfl:j=k:=by omega
       rw[HGX.o]
       exact HQ.o⟩
     case measure=>first|(simp[intOf];done)|(simp[intOf];omega)
    ·have hg:greatG l=true:=by
      rw[HG0.o,List.any_eq_true];exact⟨l[k],List.getElem_mem hlt,hq⟩
     have HG:=hY hg;unfold greatN at hq;simp only[Bool.or_eq_true,decide_eq_true_eq] at hq;generalize l[k]=x at *;clear hg;by_cases q1:60<x.prog.length
     ·clear hq;go_wp2;go_ret;refine⟨by rw[HG.o];rfl,HGW.o.trans ?_⟩;exact gw
     ·have q2:20<x.frm.length:=by omega
      clear hq;go_wp2;go_ret;refine⟨by rw[HG.o];rfl,HGW.o.trans ?_⟩;exact gw
   ·obtain rfl:k=l.length:=by omega
    have hg:greatG l=false:=by
     rw[HG0.o,List.any_eq_false];intro x hx;obtain⟨t,ht,rfl⟩:=List.mem_iff_getElem.1 hx;rw[HNO.o t ht ht];simp
    have HG:=hY hg;clear hg hgw hno;go_wp2;go_ret;refine⟨by rw[HG.o];rfl,HGW.o.trans ?_⟩;exact gw
def greatP(p:List Gr.Stp): Bool:=decide (20<p.length)||p.any fun s=>greatG [s.nd]
theorem great10_any(v u:Value)(l:List Gr.Nd)(p:List Gr.Stp)(w:World)(hv:NodesAt w v l)(hu:StepsAt w u p): Calls Tryz.prog 6 #[v,u] w (Gives (.bool (greatG l||greatP p)) w):=by
 have HG8:=hY fun W (g:Grew w W)=>great08_any v l W (hv.grew g)
 have HU:=hY hu;obtain⟨a,cap,rfl,hm,-⟩:=hu.openC;clear hv hu;cases hl:greatG l
 ·have HL:=hY hl;by_cases h20:20<p.length
  ·have hp:(false||greatP p)=true:=by unfold greatP;rw[decide_eq_true h20];rfl
   have HP:=hY hp;have h20':(20:Int)<(p.length:Int):=by omega
   clear hl hp h20;go_enter Tryz.func6,Tryz.ntmps6
   go_wp2_with (go_at_call 28;refine(HG8.o _ gw).mono ?_;rintro e w1 ⟨rfl,R1,n1,rfl⟩;rw[HL.o])
   go_ret;exact⟨by rw[HP.o];rfl,gw⟩
  ·have h20':¬(20:Int)<(p.length:Int):=by omega
   have hp:(false||greatP p)=p.any fun s=>greatG [s.nd]:=by unfold greatP;rw[decide_eq_false h20];rfl
   have HP:=hY hp;clear hl hp h20;go_enter Tryz.func6,Tryz.ntmps6
   go_wp2_with (go_at_call 28;refine(HG8.o _ gw).mono ?_;rintro e w1 ⟨rfl,R1,n1,rfl⟩;rw[HL.o])
   go_loopg [16] p.length (fun gg s16 wr=>∃g:Nat,g≤p.length∧p.length-g≤gg∧s16 = .int .i64 g∧Hid (Grew w wr)∧Hid (∀i (hi:i<p.length),i<g→greatG [p[i].nd]=false))
   case atStart=>exact⟨0,by omega,by omega,rfl,hY gw,hY fun i _ h=>by omega⟩
   case round =>
    obtain⟨g,hg8,hgg,rfl,HGR,HNO⟩:=hrel;by_cases hlt:g<p.length
    ·obtain⟨av,cv,e,-,hx⟩:=(HU.o.grew HGR.o).openC;cases e;obtain⟨b,off,c,rfl,hb,hn,c0,c1,c2,c3,c4,c5,c6,c7,c8,c9,c10,c11,c12,c13,c14⟩:=hx g hlt;have hany:greatG [p[g].nd]=true→(p.any fun s=>greatG [s.nd])=true:=fun h=>List.any_eq_true.2 ⟨_,List.getElem_mem hlt,h⟩
     have HANY:=hY hany;clear hx hany;generalize hy:p[g]=y at *;have HY:=hY hy;have HND:=hY hn.nd;obtain⟨kind,reset,cid,kd,af,cf,ap,cp,par,r0,r1,r2,r3,r4,r5,r6,r7,rfl⟩:=hn.lit;simp only at c0 c1 c2 c3 c4 c5 c6 c7 c8 c9 c10 c11 c12 c13 c14;clear hn hy;cases hq:greatG [y.nd]
     ·have HQ:=hY hq;clear hq
      go_wp2_with (go_at_call 28;refine(great08_any _ [y.nd] _ (NodesAt.one (HND.o.grew gw) _ (by simp[World.size_alloc]) _ rfl)).mono ?_;rintro e w1 ⟨rfl,R1,n1,rfl⟩;rw[HQ.o])
      go_roundg (p.length-(g+1))
      case measure=>omega
      case rel=>exact⟨g+1,by omega,by omega,by go_num,hY (HGR.o.trans gw),hY fun i hi h=>by
       rcases Nat.lt_or_ge i g with h1|h1
       ·exact HNO.o i hi h1
       ·obtain rfl:i=g:=by omega
        rw[HY.o]
        exact HQ.o⟩
     ·have HQ:=hY hq;clear hq
      go_wp2_with (go_at_call 28;refine(great08_any _ [y.nd] _ (NodesAt.one (HND.o.grew gw) _ (by simp[World.size_alloc]) _ rfl)).mono ?_;rintro e w1 ⟨rfl,R1,n1,rfl⟩;rw[HQ.o])
      go_ret;exact⟨by rw[HP.o,HANY.o HQ.o];rfl,HGR.o.trans gw⟩
    ·obtain rfl:g=p.length:=by omega
     have hno:(p.any fun s=>greatG [s.nd])=false:=by
      rw[List.any_eq_false];intro s hs;obtain⟨i,hi,rfl⟩:=List.mem_iff_getElem.1 hs;rw[HNO.o i hi hi];simp
     have HNN:=hY hno;clear hno;go_wp2;go_ret;exact⟨by rw[HP.o,HNN.o];rfl,HGR.o⟩
 ·have HL:=hY hl;clear hl;go_enter Tryz.func6,Tryz.ntmps6
  go_wp2_with (go_at_call 28;refine(HG8.o _ gw).mono ?_;rintro e w1 ⟨rfl,R1,n1,rfl⟩;rw[HL.o])
  go_ret;exact⟨by rfl,gw⟩
end Go.Proofs.YtipgfjihdglocaaGreat
namespace Go
end Go
namespace Go.Proofs.YtipgfjihdglocaaGreat
open Go.RowKit Ga
end Go.Proofs.YtipgfjihdglocaaGreat
namespace Go.Proofs.YtipgfjihdglocaaGreat
open Go.RowKit Ga Go.ChangeShapes Go.WideShapes
theorem cells_int1:Tryz.prog.cellsOf 3=1:=by kernel_rfl
theorem cells_ints1:Tryz.prog.cellsOf 43=1:=by kernel_rfl
theorem cells_ins:Tryz.prog.cellsOf 187=2:=by kernel_rfl
theorem cells_inss1:Tryz.prog.cellsOf 49=1:=by kernel_rfl
theorem cells_arr8:Tryz.prog.cellsOf 50=8:=by kernel_rfl
theorem cells_node:Tryz.prog.cellsOf 52=13:=by kernel_rfl
theorem laidOut:laidOutB Tryz.prog=true:=by kernel_rfl
theorem opens_int1:Opens Tryz.prog 3 (fun _ cs (n:Int)=>cs=[Value.int .i64 n]∧True):=(Opens.i64 Tryz.underlying3).mono fun _ _ n h=>⟨n,h.1,trivial⟩
theorem opens_insN:Opens Tryz.prog 187 (fun _ cs (a:Ga.Val)=>cs=[Value.int .i64 a.1,Value.int .i64 a.2]∧True):=by
 intro H enc w fuel cs x hx;obtain⟨hl,hf⟩:=Opens.fields Tryz.underlying187 hx;rw[cells_ins] at hl
 match cs,hl with
 |[c0,c1],_ =>
  obtain⟨n0,y0,h0⟩:=hf 0 _ rfl;obtain⟨n1,y1,h1⟩:=hf 1 _ rfl;have h0':DataW.trod enc Tryz.prog w 0 (fun _=>true) true n0 3 (([c0,c1].drop 0).take (Tryz.prog.cellsOf 3))=some y0:=h0;have h1':DataW.trod enc Tryz.prog w 0 (fun _=>true) true n1 3 (([c0,c1].drop 1).take (Tryz.prog.cellsOf 3))=some y1:=h1;rw[cells_int1] at h0' h1';obtain⟨i0,e0,-⟩:=opens_int1 H enc w n0 _ _ h0';obtain⟨i1,e1,-⟩:=opens_int1 H enc w n1 _ _ h1';simp at e0 e1;subst e0 e1;exact⟨(i0,i1),rfl,trivial⟩
theorem SlAt.rowsC{α:Type}{k:Nat}{enc:α→List Value}{w:World}{v:Value}{l:List α}(h:SlAt k (fun _ cs (a:α)=>cs=enc a∧True) w v l): RowsAt k enc w v l∧∃a cap,v = .slice a l.length cap∧l.length≤cap:=by
 refine⟨h.rows.1,?_⟩;obtain⟨a,cap,rfl,hl,-⟩:=h;exact⟨a,cap,rfl,hl⟩
theorem opens_node:Opens Tryz.prog 52 (fun w cs (x:NdC×Gr.Nd)=>cs=encNd x.1∧NodeIs w x.1 x.2):=by
 intro H enc w fuel cs x hx;obtain⟨hl,hf⟩:=Opens.fields Tryz.underlying52 hx;rw[cells_node] at hl
 match cs,hl with
 |[c0,c1,c2,c3,c4,c5,c6,c7,c8,c9,c10,c11,c12],_ =>
  obtain⟨n0,y0,h0⟩:=hf 0 _ rfl;obtain⟨n1,y1,h1⟩:=hf 1 _ rfl;obtain⟨n2,y2,h2⟩:=hf 2 _ rfl;obtain⟨n3,y3,h3⟩:=hf 3 _ rfl;obtain⟨n4,y4,h4⟩:=hf 4 _ rfl;obtain⟨n5,y5,h5⟩:=hf 5 _ rfl;have h0':DataW.trod enc Tryz.prog w 0 (fun _=>true) true n0 3 (([c0,c1,c2,c3,c4,c5,c6,c7,c8,c9,c10,c11,c12].drop 0).take (Tryz.prog.cellsOf 3))=some y0:=h0;have h1':DataW.trod enc Tryz.prog w 0 (fun _=>true) true n1 3 (([c0,c1,c2,c3,c4,c5,c6,c7,c8,c9,c10,c11,c12].drop 1).take (Tryz.prog.cellsOf 3))=some y1:=h1;have h2':DataW.trod enc Tryz.prog w 0 (fun _=>true) true n2 43 (([c0,c1,c2,c3,c4,c5,c6,c7,c8,c9,c10,c11,c12].drop 2).take (Tryz.prog.cellsOf 43))=some y2:=h2;have h3':DataW.trod enc Tryz.prog w 0 (fun _=>true) true n3 49 (([c0,c1,c2,c3,c4,c5,c6,c7,c8,c9,c10,c11,c12].drop 3).take (Tryz.prog.cellsOf 49))=some y3:=h3;have h4':DataW.trod enc Tryz.prog w 0 (fun _=>true) true n4 3 (([c0,c1,c2,c3,c4,c5,c6,c7,c8,c9,c10,c11,c12].drop 4).take (Tryz.prog.cellsOf 3))=some y4:=h4;have h5':DataW.trod enc Tryz.prog w 0 (fun _=>true) true n5 50 (([c0,c1,c2,c3,c4,c5,c6,c7,c8,c9,c10,c11,c12].drop 5).take (Tryz.prog.cellsOf 50))=some y5:=h5;rw[cells_int1] at h0' h1' h4';rw[cells_ints1] at h2';rw[cells_inss1] at h3';rw[cells_arr8] at h5';obtain⟨i0,e0,-⟩:=opens_int1 H enc w n0 _ _ h0';obtain⟨i1,e1,-⟩:=opens_int1 H enc w n1 _ _ h1';obtain⟨i4,e4,-⟩:=opens_int1 H enc w n4 _ _ h4';obtain⟨l2,v2,e2,s2⟩:=Opens.slice Tryz.underlying43 cells_int1 (by decide) opens_int1 H enc w n2 _ _ h2';obtain⟨l3,v3,e3,s3⟩:=Opens.slice Tryz.underlying49 cells_ins (by decide) opens_insN H enc w n3 _ _ h3';obtain⟨hl5,hf5⟩:=Opens.elems Tryz.underlying50 h5';obtain⟨r2,a2,k2,rfl,hk2⟩:=SlAt.rowsC (enc:=fun(x:Int)=>[Value.int .i64 x]) s2;obtain⟨r3,a3,k3,rfl,hk3⟩:=SlAt.rowsC (enc:=fun(a:Ga.Val)=>[Value.int .i64 a.1,Value.int .i64 a.2]) s3
  have hr:∀i,i<8→∃r:Int,(([c5,c6,c7,c8,c9,c10,c11,c12].drop i).take 1)=[Value.int .i64 r]:=fun i hi=>by
   obtain⟨m,y,h⟩:=hf5 i hi;rw[cells_int1,Nat.mul_one] at h;obtain⟨r,e,-⟩:=opens_int1 H enc w m _ _ h;exact⟨r,e⟩
  obtain⟨q0,g0⟩:=hr 0 (by decide);obtain⟨q1,g1⟩:=hr 1 (by decide);obtain⟨q2,g2⟩:=hr 2 (by decide);obtain⟨q3,g3⟩:=hr 3 (by decide);obtain⟨q4,g4⟩:=hr 4 (by decide);obtain⟨q5,g5⟩:=hr 5 (by decide);obtain⟨q6,g6⟩:=hr 6 (by decide);obtain⟨q7,g7⟩:=hr 7 (by decide);simp at e0 e1 e2 e3 e4 g0 g1 g2 g3 g4 g5 g6 g7;subst e0 e1 e2 e3 e4 g0 g1 g2 g3 g4 g5 g6 g7;exact⟨(⟨i0,i1,a2,l2.length,k2,a3,l3.length,k3,i4,q0,q1,q2,q3,q4,q5,q6,q7⟩,⟨i0,i1,l2,l3,i4,[q0,q1,q2,q3,q4,q5,q6,q7]⟩),rfl,rfl,rfl,r2,r3,rfl,rfl,hk2⟩
theorem nodes_of{w:World}{v:Value}{l:List (NdC×Gr.Nd)}(h:SlAt 13 (fun w cs (x:NdC×Gr.Nd)=>cs=encNd x.1∧NodeIs w x.1 x.2) w v l): NodesAt w v (l.map (·.2)):=by
 obtain⟨a,cap,rfl,hl,hm,hnil,hx⟩:=h;refine⟨l.map (·.1),⟨a,cap,by simp,Nat.le_trans (by simpa using hl) hm,fun hne=>?_⟩,by simp,?_⟩
 ·obtain⟨b,off,rfl,hc⟩:=hx (by intro e;subst e;exact hne rfl);refine⟨b,off,rfl,fun i c hi j u hu=>?_⟩;rw[List.getElem?_map] at hi;obtain⟨y,hy,rfl⟩:=Option.map_eq_some_iff.1 hi;obtain⟨cs,-,⟨rfl,-⟩,h2⟩:=hc i y hy;exact h2 j u hu
 ·intro i c n hc hn;rw[List.getElem?_map] at hc hn;obtain⟨y,hy,rfl⟩:=Option.map_eq_some_iff.1 hc;obtain⟨z,hz,rfl⟩:=Option.map_eq_some_iff.1 hn;obtain rfl:=Option.some.inj (hy.symm.trans hz);obtain⟨b,off,rfl,hx2⟩:=hx (by intro e;subst e;simp at hy);obtain⟨cs,-,⟨-,h1⟩,-⟩:=hx2 i y hy;exact h1
theorem arg_nodes{H:Type}{enc:TypeId×Value→H}{w:World}{v:Value}{d:DataW H}{ps:List MemPlace}{r:Reach}{b:Nat}(ho:Value.okWide Tryz.prog w r b 22 v)(h:DataW.Trod enc Tryz.prog w 0 (fun _=>true) true 22 v d ps): ∃l,NodesAt w v l:=by
 obtain⟨l,u,h1,h2⟩:=(Opens.slice Tryz.underlying22 cells_node (by decide) opens_node).arg h;obtain rfl:=cells_slice Tryz.underlying22 ho h1;exact⟨_,nodes_of h2⟩
theorem arg_str{H:Type}{enc:TypeId×Value→H}{w:World}{v:Value}{d:DataW H}{ps:List MemPlace}{r:Reach}{b:Nat}(ho:Value.okWide Tryz.prog w r b 9 v)(h:DataW.Trod enc Tryz.prog w 0 (fun _=>true) true 9 v d ps): ∃l:List UInt8,v = .string ⟨l.toArray⟩:=by
 obtain⟨s,h1,-⟩:=(Opens.string Tryz.underlying9).arg h;obtain rfl:=cells_string Tryz.underlying9 ho h1;exact⟨s.data.toList,rfl⟩
theorem cells_step:Tryz.prog.cellsOf 69=15:=by kernel_rfl
theorem cells_bool1:Tryz.prog.cellsOf 4=1:=by kernel_rfl
theorem opens_bool1:Opens Tryz.prog 4 (fun _ cs (b:Bool)=>cs=[Value.bool b]∧True):=(Opens.bool Tryz.underlying4).mono fun _ _ n h=>⟨n,h,trivial⟩
theorem opens_step:Opens Tryz.prog 69 (fun w cs (x:StC×Gr.Stp)=>cs=encSt x.1∧StepIs w x.1 x.2):=by
 intro H enc w fuel cs x hx;obtain⟨hl,hf⟩:=Opens.fields Tryz.underlying69 hx;rw[cells_step] at hl
 match cs,hl with
 |[c0,c1,c2,c3,c4,c5,c6,c7,c8,c9,c10,c11,c12,c13,c14],_ =>
  obtain⟨n0,y0,h0⟩:=hf 0 _ rfl;obtain⟨n1,y1,h1⟩:=hf 1 _ rfl;obtain⟨n2,y2,h2⟩:=hf 2 _ rfl;have h0':DataW.trod enc Tryz.prog w 0 (fun _=>true) true n0 3 (([c0,c1,c2,c3,c4,c5,c6,c7,c8,c9,c10,c11,c12,c13,c14].drop 0).take (Tryz.prog.cellsOf 3))=some y0:=h0;have h1':DataW.trod enc Tryz.prog w 0 (fun _=>true) true n1 52 (([c0,c1,c2,c3,c4,c5,c6,c7,c8,c9,c10,c11,c12,c13,c14].drop 1).take (Tryz.prog.cellsOf 52))=some y1:=h1;have h2':DataW.trod enc Tryz.prog w 0 (fun _=>true) true n2 4 (([c0,c1,c2,c3,c4,c5,c6,c7,c8,c9,c10,c11,c12,c13,c14].drop 14).take (Tryz.prog.cellsOf 4))=some y2:=h2;rw[cells_int1] at h0';rw[cells_node] at h1';rw[cells_bool1] at h2';obtain⟨i0,e0,-⟩:=opens_int1 H enc w n0 _ _ h0';obtain⟨⟨c,n⟩,e1,hn⟩:=opens_node H enc w n1 _ _ h1';obtain⟨b2,e2,-⟩:=opens_bool1 H enc w n2 _ _ h2';simp[encNd] at e0 e1 e2;obtain⟨g0,g1,g2,g3,g4,g5,g6,g7,g8,g9,g10,g11,g12⟩:=e1;subst e0 e2 g0 g1 g2 g3 g4 g5 g6 g7 g8 g9 g10 g11 g12;exact⟨(⟨i0,c,b2⟩,⟨i0,n,b2⟩),rfl,⟨rfl,hn,rfl⟩⟩
theorem steps_of{w:World}{v:Value}{l:List (StC×Gr.Stp)}(h:SlAt 15 (fun w cs (x:StC×Gr.Stp)=>cs=encSt x.1∧StepIs w x.1 x.2) w v l): StepsAt w v (l.map (·.2)):=by
 obtain⟨a,cap,rfl,hl,hm,hnil,hx⟩:=h;refine⟨l.map (·.1),⟨a,cap,by simp,Nat.le_trans (by simpa using hl) hm,fun hne=>?_⟩,by simp,?_⟩
 ·obtain⟨b,off,rfl,hc⟩:=hx (by intro e;subst e;exact hne rfl);refine⟨b,off,rfl,fun i c hi j u hu=>?_⟩;rw[List.getElem?_map] at hi;obtain⟨y,hy,rfl⟩:=Option.map_eq_some_iff.1 hi;obtain⟨cs,-,⟨rfl,-⟩,h2⟩:=hc i y hy;exact h2 j u hu
 ·intro i c n hc hn;rw[List.getElem?_map] at hc hn;obtain⟨y,hy,rfl⟩:=Option.map_eq_some_iff.1 hc;obtain⟨z,hz,rfl⟩:=Option.map_eq_some_iff.1 hn;obtain rfl:=Option.some.inj (hy.symm.trans hz);obtain⟨b,off,rfl,hx2⟩:=hx (by intro e;subst e;simp at hy);obtain⟨cs,-,⟨-,h1⟩,-⟩:=hx2 i y hy;exact h1
theorem arg_steps{H:Type}{enc:TypeId×Value→H}{w:World}{v:Value}{d:DataW H}{ps:List MemPlace}{r:Reach}{b:Nat}(ho:Value.okWide Tryz.prog w r b 34 v)(h:DataW.Trod enc Tryz.prog w 0 (fun _=>true) true 34 v d ps): ∃l,StepsAt w v l:=by
 obtain⟨l,u,h1,h2⟩:=(Opens.slice Tryz.underlying34 cells_step (by decide) opens_step).arg h;obtain rfl:=cells_slice Tryz.underlying34 ho h1;exact⟨_,steps_of h2⟩
end Go.Proofs.YtipgfjihdglocaaGreat
