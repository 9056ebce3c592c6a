import Derived.Test.YtgebkpgilgppgaaGreatMw4
import Derived.Test.YtgebkpgilgppgaaGreatMw0
import Derived.Test.YtgebkpgilgppgaaGreatMw3
import Derived.Test.YtgebkpgilgppgaaGreatMw6
import Derived.Lib.LaidTab
import Derived.Lib.ConvBytes
import Derived.WalkSmall
import Derived.Test.YtgebkpgilgppgaaGreatMw5
import Derived.DeepKeys4
import Derived.DeepKeys5
import Derived.Maps.Views
import Derived.Maps.OwnSet
import Derived.Maps.RangeWalk
import Derived.Deep.LoopGhost
import Derived.ChangeKeysEq
import Derived.Deep.DeepCutAuto
import Derived.Deep.QuietTactic
import Derived.BigQuiet
set_option linter.unusedSimpArgs false
set_option linter.unusedVariables false
set_option maxRecDepth 100000
set_option maxHeartbeats 64000000
namespace Go.Proofs.YtgebkpgilgppgaaGreat
open Go.RowKit Ga
theorem U0(w:World)(t:TypeId)(x:ByteArray): AA w (Lib.bytesWorld w t x):=by
 apply AA.ofBelow;unfold Lib.bytesWorld;exact below_freeze (((Below.refl _ _).drew).alloc (Nat.le_refl _) _) (p:=⟨w.heap.size,_,none⟩) (Nat.le_refl w.heap.size) _
def Pow (w : World) : Prop := Lib.TabIs Tryz.prog w "internal/strconv.uint64pow10" .u64 Lib.pow10Tab
theorem Sd{n:String}{cs:Array Value}{w w':World}(h:w.var? Tryz.prog n=some cs)(g:AA w w'): w'.var? Tryz.prog n=some cs:=by
 cases hg:Tryz.prog.globalNamed n with
 | none=>unfold World.var? at h;simp[hg] at h
 |some i =>
  by_cases hi:i<w.heap.size
  ·exact var?_below g.below hg hi h
  ·unfold World.var? at h;have:w.heap[i]? = none:=Array.getElem?_eq_none (by omega);simp[hg,this] at h
theorem Pow.grew{w w':World}(h:Pow w)(g:AA w w'): Pow w':=Sd h g
theorem Rz:laidOutB Tryz.prog=true:=by kernel_rfl
theorem Cz:Maps.Keyed Tryz.prog 157:=Maps.Keyed.of_law (deep_law_laid Rz (m:=3) (by decide) (of_decide_eq_true (by kernel_rfl)) (by kernel_rfl) (by kernel_rfl))
def L9(n k:Int): Value:=.agg #[.int .i64 n,.int .i64 k]
theorem Qd{n k n' k':Int}(h:L9 n k=L9 n' k'): n=n'∧k=k':=by
 unfold L9 at h;simp at h;exact h
theorem Zl:Tryz.prog.keyType 157=true:=by kernel_rfl
theorem Un:Tryz.prog.cellsOf 157=2:=by kernel_rfl
theorem Qe:Tryz.prog.cellsOf 3=1:=by kernel_rfl
theorem Zm:Tryz.prog.types.size≠0:=of_decide_eq_true (by kernel_rfl)
theorem A4k(n k:Int)(h1 : -9223372036854775808≤n∧n≤9223372036854775807)(h2 : -9223372036854775808≤k∧k≤9223372036854775807): ∃kl,keyOf Tryz.prog 157 (L9 n k)=some kl:=by
 have w1:=WalkArith.wf_i64 h1;have w2:=WalkArith.wf_i64 h2;unfold L9 keyOf;obtain⟨m,hm⟩:=Nat.exists_eq_succ_of_ne_zero Zm;simp only[Tryz.underlying157,Zl,hm];simp[Value.formed,Tryz.underlying157,Un,Program.keyLits,Value.cells,Tryz.underlying3,Qe,w1,w2]
def Xl(x y:Val): Value:=.agg #[.int .i64 x.1,.int .i64 x.2,.int .i64 y.1,.int .i64 y.2]
def KL(x y:Val): DataW Unit:=.agg [.lit (.int .i64 x.1),.lit (.int .i64 x.2),.lit (.int .i64 y.1),.lit (.int .i64 y.2)]
def ceL:List Value→Option (DataW Unit×List MemPlace)
 | [.int .i64 a,.int .i64 b,.int .i64 c,.int .i64 d]=>some (.agg [.lit (.int .i64 a),.lit (.int .i64 b),.lit (.int .i64 c),.lit (.int .i64 d)],[])
 | _=>none
def ceR:Value→Option (DataW Unit×List MemPlace)
 | .agg c=>ceL c.toList
 | _=>none
theorem Zn(x y:Val): ceR (Xl x y)=some (KL x y,[]):=rfl
theorem Wl{v:Value}{d:DataW Unit×List MemPlace}(h:ceR v=some d): ∃c:Val×Val,v=Xl c.1 c.2∧d=(KL c.1 c.2,[]):=by
 cases v with
 |agg c =>
  obtain⟨c⟩:=c;have h2:ceL c=some d:=h;unfold ceL at h2;split at h2
  ·rename_i a b p q
   exact⟨((a,b),(p,q)),rfl,(Option.some.inj h2).symm⟩
  ·cases h2
 | _=>cases h
theorem PU{x y p q:Val}(h:KL x y=KL p q): x=p∧y=q:=by
 obtain⟨a,b⟩:=x;obtain⟨c,d⟩:=y;obtain⟨e,f⟩:=p;obtain⟨g,i⟩:=q;unfold KL at h;simp at h;obtain⟨rfl,rfl,rfl,rfl⟩:=h;exact⟨rfl,rfl⟩
def CF(x:Tab.En): Prop:=(0≤x.node∧x.node<8)∧(0≤x.key∧x.key<64)
theorem CF.inj{x y:Tab.En}(hx:CF x)(hy:CF y): Tab.num x=Tab.num y↔x.node=y.node∧x.key=y.key :=
 ⟨Tab.num_inj hx.2 hy.2,fun⟨h1,h2⟩=>by unfold Tab.num;rw[h1,h2]⟩
theorem CF.kl{x:Tab.En}(h:CF x): ∃kl,keyOf Tryz.prog 157 (L9 x.node x.key)=some kl:=A4k _ _ (by have:=h.1;omega) (by have:=h.2;omega)
structure Mk (D:DataW Unit) (m:List Tab.En):Prop where
 im:Maps.IsMap D
 has:∀kl,Maps.has D kl=true→∃x∈m,keyOf Tryz.prog 157 (L9 x.node x.key)=some kl
 at':∀x∈m,∀kl,keyOf Tryz.prog 157 (L9 x.node x.key)=some kl→Maps.has D kl=true∧∀zd,D.atKey kl zd=KL x.c0 x.c1
 there:∀x∈m,CF x
 un:m.Pairwise fun a b=>Tab.num a≠Tab.num b
def TabAt(W:World)(b n:Nat)(m:List Tab.En): Prop:=∃D:DataW Unit,W.ownsMap Tryz.prog 157 ceR b n D∧Mk D m
theorem TabAt.made(W:World): TabAt (W.alloc (.map #[] 0)) W.heap.size 0 [] :=
 ⟨_,World.ownsMap_made _ _ _ _,⟨_,rfl⟩,fun kl h=>by simp[Maps.has] at h,fun p hp=>(by cases hp),fun p hp=>(by cases hp),List.Pairwise.nil⟩
theorem TabAt.same{W W':World}{b n:Nat}{m:List Tab.En}(h:TabAt W b n m)(hb:W'.heap[b]? = W.heap[b]?): TabAt W' b n m:=by
 obtain⟨D,⟨es,c,h1,h2⟩,h3⟩:=h;exact⟨D,⟨es,c,by rw[hb];exact h1,h2⟩,h3⟩
theorem TabAt.lt{W:World}{b n:Nat}{m:List Tab.En}(h:TabAt W b n m): b<W.heap.size:=by
 obtain⟨D,ho,_⟩:=h;exact ho.lt
theorem TabAt.grew{W W':World}{b n:Nat}{m:List Tab.En}(h:TabAt W b n m)(g:AA W W'): TabAt W' b n m:=h.same (g.below.block b h.lt)
theorem TabAt.more{W:World}{b n n':Nat}{m:List Tab.En}(h:TabAt W b n m)(hn:n≤n'): TabAt W b n' m:=by
 obtain⟨D,ho,h2⟩:=h;exact⟨D,ho.mono hn,h2⟩
theorem Ez{x y:Tab.En}(hx:CF x)(hy:CF y){kx ky:Lit}(h1:keyOf Tryz.prog 157 (L9 x.node x.key)=some kx)(h2:keyOf Tryz.prog 157 (L9 y.node y.key)=some ky): kx=ky↔Tab.num x=Tab.num y:=by
 constructor
 ·intro e;exact(hx.inj hy).2 (Qd (Cz.inj (e▸h1) h2))
 ·intro e;obtain⟨e1,e2⟩:=(hx.inj hy).1 e;rw[e1,e2,h2] at h1;exact(Option.some.inj h1).symm
theorem Mk.put{D:DataW Unit}{m:List Tab.En}(h:Mk D m)(x:Tab.En)(hx:CF x){kl:Lit}(hk:keyOf Tryz.prog 157 (L9 x.node x.key)=some kl): Mk (D.put kl (KL x.c0 x.c1)) (x::m.filter fun y=>Tab.num y != Tab.num x):=by
 have hf:∀y∈m.filter (fun y=>Tab.num y != Tab.num x),y∈m∧Tab.num y≠Tab.num x:=fun y hy=>by
  obtain⟨h1,h2⟩:=List.mem_filter.1 hy;exact⟨h1,by simpa using h2⟩
 refine⟨h.im.put _ _,fun k2 hh=>?_,fun y hy k2 hk2=>?_,fun y hy=>?_,List.pairwise_cons.2 ⟨fun y hy e=>(hf y hy).2 e.symm,h.un.filter _⟩⟩
 ·by_cases e:k2=kl
  ·exact⟨x,List.mem_cons_self ..,by rw[e];exact hk⟩
  ·rw[Maps.has_put_other e] at hh;obtain⟨y,hy,hyk⟩:=h.has k2 hh;refine⟨y,List.mem_cons_of_mem _ (List.mem_filter.2 ⟨hy,?_⟩),hyk⟩;rw[bne_iff_ne];exact fun e2=>e ((Ez (h.there y hy) hx hyk hk).2 e2)
 ·rcases List.mem_cons.1 hy with rfl|hy
  ·rw[hk] at hk2;cases hk2;exact⟨Maps.has_put_same h.im (Cz.key hk) _,fun zd=>Maps.atKey_put_same h.im (Cz.key hk) _ _⟩
  ·obtain⟨h1,h2⟩:=hf y hy;have hne:k2≠kl:=fun e=>h2 ((Ez (h.there y h1) hx hk2 hk).1 e)
   rw[Maps.has_put_other hne];exact⟨(h.at' y h1 k2 hk2).1,fun zd=>by rw[Maps.atKey_put_other hne];exact(h.at' y h1 k2 hk2).2 zd⟩
 ·rcases List.mem_cons.1 hy with rfl|hy
  ·exact hx
  ·exact h.there y (hf y hy).1
theorem Mk.del{D:DataW Unit}{m:List Tab.En}(h:Mk D m)(x:Tab.En)(hx:CF x){kl:Lit}(hk:keyOf Tryz.prog 157 (L9 x.node x.key)=some kl): Mk (D.del kl) (m.filter fun y=>Tab.num y != Tab.num x):=by
 have hf:∀y∈m.filter (fun y=>Tab.num y != Tab.num x),y∈m∧Tab.num y≠Tab.num x:=fun y hy=>by
  obtain⟨h1,h2⟩:=List.mem_filter.1 hy;exact⟨h1,by simpa using h2⟩
 refine⟨h.im.del _,fun k2 hh=>?_,fun y hy k2 hk2=>?_,fun y hy=>h.there y (hf y hy).1,h.un.filter _⟩
 ·by_cases e:k2=kl
  ·rw[e,Maps.has_del_same] at hh;cases hh
  ·rw[Maps.has_del_other e] at hh;obtain⟨y,hy,hyk⟩:=h.has k2 hh;refine⟨y,List.mem_filter.2 ⟨hy,?_⟩,hyk⟩;rw[bne_iff_ne];exact fun e2=>e ((Ez (h.there y hy) hx hyk hk).2 e2)
 ·obtain⟨h1,h2⟩:=hf y hy;have hne:k2≠kl:=fun e=>h2 ((Ez (h.there y h1) hx hk2 hk).1 e)
  rw[Maps.has_del_other hne];exact⟨(h.at' y h1 k2 hk2).1,fun zd=>by rw[Maps.atKey_del_other hne];exact(h.at' y h1 k2 hk2).2 zd⟩
theorem II{W W':World}{b:Nat}(h:W.mapTurned W' b): A7 b W W':=⟨h.grown.size,fun q hq hne=>h.grown.block q hq fun e=>hne (Option.some.inj e)⟩
theorem IJ{w0 W W':World}{b:Nat}(g:AA w0 W)(hb:w0.heap.size≤b)(h:W.mapTurned W' b): AA w0 W':=g.grown h.grown fun q hq=>by cases hq;exact hb
theorem TabAt.put{W:World}{b n:Nat}{m:List Tab.En}(h:TabAt W b n m)(hn:n<maxLen)(x:Tab.En)(hx:CF x):
  ∃W',(Instr.mapUpdate 178 (.map (some b)) (L9 x.node x.key) (Xl x.c0 x.c1)).run Tryz.prog W = .ok () W'∧TabAt W' b (n+1) (x::m.filter fun y=>Tab.num y != Tab.num x)∧W.mapTurned W' b:=by
 obtain⟨D,ho,hD⟩:=h;obtain⟨kl,hk⟩:=hx.kl;obtain⟨W',hr,ho',hg⟩:=World.ownsMap.store ho Cz Tryz.underlying178 hn hk (Zn x.c0 x.c1);exact⟨W',hr,⟨_,ho',hD.put x hx hk⟩,hg⟩
theorem TabAt.del{W:World}{b n:Nat}{m:List Tab.En}(h:TabAt W b n m)(x:Tab.En)(hx:CF x)(ty:TypeId):
  ∃W',(Builtin.delete_ #[178,157] ty #[.map (some b),L9 x.node x.key]).run Tryz.prog W = .ok (.tuple #[]) W'∧TabAt W' b n (m.filter fun y=>Tab.num y != Tab.num x)∧W.mapTurned W' b:=by
 obtain⟨D,ho,hD⟩:=h;obtain⟨kl,hk⟩:=hx.kl;obtain⟨W',hr,ho',hg⟩:=World.ownsMap.drop ho Cz Tryz.underlying178 hk ty;exact⟨W',hr,⟨_,ho',hD.del x hx hk⟩,hg⟩
end Go.Proofs.YtgebkpgilgppgaaGreat
namespace Go.Proofs.YtgebkpgilgppgaaGreat
open Go.RowKit
structure EE (κ ν:Type) where
 kt:TypeId
 law:Maps.Keyed Tryz.prog kt
 kenc:κ→Value
 kinj:∀a b,kenc a=kenc b→a=b
 ok:κ→Prop
 key:∀a,ok a→∃kl,keyOf Tryz.prog kt (kenc a)=some kl
 venc:ν→Value
 dat:ν→DataW Unit
 R:Value→Option (DataW Unit×List MemPlace)
 rmk:∀v,R (venc v)=some (dat v,[])
 rinv:∀u ps v,R u=some (dat v,ps)→u=venc v
structure MpD {κ ν:Type} (S:EE κ ν) (D:DataW Unit) (m:List (κ×ν)):Prop where
 tidy:Maps.Tidy D
 has:∀kl,Maps.has D kl=true→∃x∈m,keyOf Tryz.prog S.kt (S.kenc x.1)=some kl
 at':∀x∈m,∀kl,keyOf Tryz.prog S.kt (S.kenc x.1)=some kl→Maps.has D kl=true∧∀zd,D.atKey kl zd=S.dat x.2
 ok:∀x∈m,S.ok x.1
 un:m.Pairwise fun a b=>a.1≠b.1
 sz:Maps.size D=m.length
def MapAt{κ ν:Type}(S:EE κ ν)(W:World)(b n:Nat)(m:List (κ×ν)): Prop:=∃D:DataW Unit,W.ownsMap Tryz.prog S.kt S.R b n D∧MpD S D m
theorem MapAt.made{κ ν:Type}(S:EE κ ν)(W:World): MapAt S (W.alloc (.map #[] 0)) W.heap.size 0 [] :=
 ⟨_,World.ownsMap_made _ _ _ _,⟨Maps.tidy_empty,fun kl h=>by simp[Maps.has] at h,fun p hp=>(by cases hp),fun p hp=>(by cases hp),List.Pairwise.nil,rfl⟩⟩
theorem MapAt.same{κ ν:Type}{S:EE κ ν}{W W':World}{b n:Nat}{m:List (κ×ν)}(h:MapAt S W b n m)(hb:W'.heap[b]? = W.heap[b]?): MapAt S W' b n m:=by
 obtain⟨D,⟨es,c,h1,h2⟩,h3⟩:=h;exact⟨D,⟨es,c,by rw[hb];exact h1,h2⟩,h3⟩
theorem MapAt.lt{κ ν:Type}{S:EE κ ν}{W:World}{b n:Nat}{m:List (κ×ν)}(h:MapAt S W b n m): b<W.heap.size:=by
 obtain⟨D,ho,_⟩:=h;exact ho.lt
theorem MapAt.grew{κ ν:Type}{S:EE κ ν}{W W':World}{b n:Nat}{m:List (κ×ν)}(h:MapAt S W b n m)(g:AA W W'): MapAt S W' b n m:=h.same (g.below.block b h.lt)
theorem MapAt.more{κ ν:Type}{S:EE κ ν}{W:World}{b n n':Nat}{m:List (κ×ν)}(h:MapAt S W b n m)(hn:n≤n'): MapAt S W b n' m:=by
 obtain⟨D,ho,h2⟩:=h;exact⟨D,ho.mono hn,h2⟩
theorem MpD.fresh{κ ν:Type}{S:EE κ ν}{D:DataW Unit}{m:List (κ×ν)}(h:MpD S D m){k:κ}(hk:∀x∈m,x.1≠k){kl:Lit}(hl:keyOf Tryz.prog S.kt (S.kenc k)=some kl): Maps.has D kl=false:=by
 cases hh:Maps.has D kl
 ·rfl
 ·obtain⟨x,hx,hxk⟩:=h.has kl hh;exact absurd (S.kinj _ _ (S.law.inj hxk hl)) (hk x hx)
theorem MpD.put{κ ν:Type}{S:EE κ ν}{D:DataW Unit}{m:List (κ×ν)}(h:MpD S D m)(k:κ)(v:ν)(hok:S.ok k)(hf:∀x∈m,x.1≠k){kl:Lit}(hk:keyOf Tryz.prog S.kt (S.kenc k)=some kl): MpD S (D.put kl (S.dat v)) ((k,v)::m):=by
 have hno:=h.fresh hf hk;refine⟨h.tidy.put (S.law.key hk) _,fun k2 hh=>?_,fun y hy k2 hk2=>?_,fun y hy=>?_,List.pairwise_cons.2 ⟨fun y hy e=>hf y hy e.symm,h.un⟩,?_⟩
 ·by_cases e:k2=kl
  ·exact⟨_,List.mem_cons_self ..,by rw[e];exact hk⟩
  ·rw[Maps.has_put_other e] at hh;obtain⟨y,hy,hyk⟩:=h.has k2 hh;exact⟨y,List.mem_cons_of_mem _ hy,hyk⟩
 ·rcases List.mem_cons.1 hy with rfl|hy
  ·rw[hk] at hk2;cases hk2;exact⟨Maps.has_put_same h.tidy.isMap (S.law.key hk) _,fun zd=>Maps.atKey_put_same h.tidy.isMap (S.law.key hk) _ _⟩
  ·have hne:k2≠kl:=fun e=>hf y hy (S.kinj _ _ (S.law.inj (e▸hk2) hk))
   rw[Maps.has_put_other hne];exact⟨(h.at' y hy k2 hk2).1,fun zd=>by rw[Maps.atKey_put_other hne];exact(h.at' y hy k2 hk2).2 zd⟩
 ·rcases List.mem_cons.1 hy with rfl|hy
  ·exact hok
  ·exact h.ok y hy
 ·rw[Maps.size_put h.tidy,hno,h.sz];rfl
theorem MapAt.put{κ ν:Type}{S:EE κ ν}{W:World}{b n:Nat}{m:List (κ×ν)}(h:MapAt S W b n m)(hn:n<maxLen)(k:κ)(v:ν)(hok:S.ok k)(hf:∀x∈m,x.1≠k){t e:TypeId}(ht:Tryz.prog.underlying t=some (.map S.kt e)):
  ∃W',(Instr.mapUpdate t (.map (some b)) (S.kenc k) (S.venc v)).run Tryz.prog W = .ok () W'∧MapAt S W' b (n+1) ((k,v)::m)∧W.mapTurned W' b:=by
 obtain⟨D,ho,hD⟩:=h;obtain⟨kl,hk⟩:=S.key k hok;obtain⟨W',hr,ho',hg⟩:=World.ownsMap.store ho S.law ht hn hk (S.rmk v);exact⟨W',hr,⟨_,ho',hD.put k v hok hf hk⟩,hg⟩
open Classical in
noncomputable def EM{κ ν:Type}(m:List (κ×ν))(k:κ): Option ν:=(m.find? fun x=>decide (x.1=k)).map (·.2)
open Classical in
theorem Sa{κ ν:Type}{m:List (κ×ν)}{k:κ}(h:∀x∈m,x.1≠k): EM m k=none:=by
 unfold EM;rw[List.find?_eq_none.2 fun x hx=>by simpa using h x hx];rfl
open Classical in
theorem Zy{κ ν:Type}{m:List (κ×ν)}{k:κ}{v:ν}(hu:m.Pairwise fun a b=>a.1≠b.1)(h:(k,v)∈m): EM m k=some v:=by
 unfold EM
 induction m with
 | nil=>cases h
 |cons y m ih =>
  obtain⟨h1,h2⟩:=List.pairwise_cons.1 hu;rw[List.find?_cons];rcases List.mem_cons.1 h with rfl|h3
  ·simp
  ·rw[decide_eq_false (h1 _ h3)];exact ih h2 h3
theorem ME{κ ν:Type}(m:List (κ×ν))(k:κ): (∃v,EM m k=some v∧(k,v)∈m)∨(EM m k=none∧∀x∈m,x.1≠k):=by
 classical
 unfold EM
 cases h:m.find? fun x=>decide (x.1=k) with
 |none =>
  refine .inr ⟨rfl,fun x hx=>?_⟩
  simpa using List.find?_eq_none.1 h x hx
 |some x =>
  have h1:=List.find?_some h;have h2:=List.mem_of_find?_eq_some h;obtain⟨a,v⟩:=x;simp only[decide_eq_true_eq] at h1;subst h1;exact .inl ⟨v,rfl,h2⟩
theorem MpD.found{κ ν:Type}{S:EE κ ν}{D:DataW Unit}{m:List (κ×ν)}(h:MpD S D m){k:κ}{kl:Lit}(hl:keyOf Tryz.prog S.kt (S.kenc k)=some kl)(v0:ν): Maps.has D kl=(EM m k).isSome∧D.atKey kl (S.dat v0)=S.dat ((EM m k).getD v0):=by
 rcases ME m k with ⟨v,h1,h2⟩|⟨h1,h2⟩
 ·obtain⟨h3,h4⟩:=h.at' _ h2 kl hl;rw[h1];exact⟨h3,h4 _⟩
 ·have h3:=h.fresh h2 hl;rw[h1,h3];exact⟨rfl,Maps.atKey_of_not_has h3 _⟩
theorem MapAt.look{κ ν:Type}{S:EE κ ν}{W:World}{b n:Nat}{m:List (κ×ν)}(h:MapAt S W b n m)(k:κ)(hok:S.ok k){t e:TypeId}(ht:Tryz.prog.underlying t=some (.map S.kt e))(v0:ν)(hz:(zeroValue e).run Tryz.prog W = .ok (S.venc v0) W):
  (Instr.lookup t (.map (some b)) (S.kenc k) false).run Tryz.prog W = .ok (S.venc ((EM m k).getD v0)) W:=by
 obtain⟨D,ho,hD⟩:=h;obtain⟨kl,hk⟩:=S.key k hok;obtain⟨v,ps,hr,hR⟩:=World.ownsMap.lookup ho S.law ht hz (S.rmk v0) hk;rw[(hD.found hk v0).2] at hR;rw[hr,S.rinv _ _ _ hR]
theorem MapAt.lookOk{κ ν:Type}{S:EE κ ν}{W:World}{b n:Nat}{m:List (κ×ν)}(h:MapAt S W b n m)(k:κ)(hok:S.ok k){t e:TypeId}(ht:Tryz.prog.underlying t=some (.map S.kt e))(v0:ν)(hz:(zeroValue e).run Tryz.prog W = .ok (S.venc v0) W):
  (Instr.lookup t (.map (some b)) (S.kenc k) true).run Tryz.prog W = .ok (.tuple #[S.venc ((EM m k).getD v0),.bool (EM m k).isSome]) W:=by
 obtain⟨D,ho,hD⟩:=h;obtain⟨kl,hk⟩:=S.key k hok;obtain⟨v,ps,hr,hR⟩:=World.ownsMap.look_ok ho S.law ht hz (S.rmk v0) hk;rw[(hD.found hk v0).2] at hR;rw[hr,S.rinv _ _ _ hR,(hD.found hk v0).1]
theorem MapAt.len{κ ν:Type}{S:EE κ ν}{W:World}{b n:Nat}{m:List (κ×ν)}(h:MapAt S W b n m){t e:TypeId}(ht:Tryz.prog.underlying t=some (.map S.kt e))(ty:TypeId):
  (Builtin.len_ #[t] ty #[.map (some b)]).run Tryz.prog W = .ok (.int .i64 m.length) W:=by
 obtain⟨D,ho,hD⟩:=h;rw[ho.len ht ty,hD.sz]
theorem MapAt.len_le{κ ν:Type}{S:EE κ ν}{W:World}{b n:Nat}{m:List (κ×ν)}(h:MapAt S W b n m): m.length≤n:=by
 obtain⟨D,ho,hD⟩:=h;have:=ho.size_le;rw[hD.sz] at this;exact this
theorem MapAt.un{κ ν:Type}{S:EE κ ν}{W:World}{b n:Nat}{m:List (κ×ν)}(h:MapAt S W b n m): m.Pairwise fun a b=>a.1≠b.1:=by
 obtain⟨D,ho,hD⟩:=h;exact hD.un
theorem Oi{κ ν:Type}{S:EE κ ν}{w0 W:World}{ops:Array Oper}{rest:List Oper}{o:Oper}{a:Act}{Q:Exit→Act→World→Prop}{b n:Nat}{M:List (κ×ν)}
  (hg:o.guard=none) (m k v:Operand) (t:TypeId) (hop:o.op=Op.mapUpdate t m k v) {e:TypeId} (ht:Tryz.prog.underlying t=some (.map S.kt e)) (hgr:AA w0 W) (hb:w0.heap.size≤b)
  (hm:a.eval m = .map (some b)) (h:MapAt S W b n M) (hn:n<maxLen) (x:κ) (y:ν) (hok:S.ok x) (hf:∀z∈M,z.1≠x) (hk:a.eval k=S.kenc x) (hv:a.eval v=S.venc y)
  (hK:∀W',MapAt S W' b (n+1) ((x,y)::M)→AA w0 W'→A7 b W W'→wpList Tryz.prog ops Q rest (a.put o.dst undef) W'):wpList Tryz.prog ops Q (o::rest) a W:=by
 refine wpList_plain hg fun K' hK'=>?_
 obtain⟨W',hrun,r1,r2⟩:=h.put hn x y hok hf ht;unfold Oper.wp;simp[execOp,hop,hm,hk,hv,hrun,Result.andThen];exact hK' _ _ (hK W' r1 (IJ hgr hb r2) (II r2))
end Go.Proofs.YtgebkpgilgppgaaGreat
namespace Go.Proofs.YtgebkpgilgppgaaGreat
open Go.RowKit Ga
theorem Og{w0 W:World}{ops:Array Oper}{rest:List Oper}{o:Oper}{a:Act}{Q:Exit→Act→World→Prop}{b n:Nat}{M:List Tab.En}
  (hg:o.guard=none) (m k v:Operand) (hop:o.op=Op.mapUpdate 178 m k v) (hgr:AA w0 W) (hb:w0.heap.size≤b)
  (hm:a.eval m = .map (some b)) (h:TabAt W b n M) (hn:n<maxLen) (x:Tab.En) (hx:CF x) (hk:a.eval k=L9 x.node x.key) (hv:a.eval v=Xl x.c0 x.c1)
  (hK:∀W',TabAt W' b (n+1) (x::M.filter fun y=>Tab.num y != Tab.num x)→AA w0 W'→A7 b W W'→wpList Tryz.prog ops Q rest (a.put o.dst undef) W'):wpList Tryz.prog ops Q (o::rest) a W:=by
 refine wpList_plain hg fun K' hK'=>?_
 obtain⟨W',hrun,r1,r2⟩:=h.put hn x hx;unfold Oper.wp;simp[execOp,hop,hm,hk,hv,hrun,Result.andThen];exact hK' _ _ (hK W' r1 (IJ hgr hb r2) (II r2))
theorem JW{w0 W:World}{ops:Array Oper}{rest:List Oper}{o:Oper}{a:Act}{Q:Exit→Act→World→Prop}{b n:Nat}{M:List Tab.En}
  (hg:o.guard=none) (m k:Operand) (hop:o.op=Op.call { callee:=Callee.builtin Builtin.delete,args:=#[m,k],argTypes:=#[178,157] }) (hgr:AA w0 W) (hb:w0.heap.size≤b)
  (hm:a.eval m = .map (some b)) (h:TabAt W b n M) (x:Tab.En) (hx:CF x) (hk:a.eval k=L9 x.node x.key)
  (hK:∀W',TabAt W' b n (M.filter fun y=>Tab.num y != Tab.num x)→AA w0 W'→A7 b W W'→wpList Tryz.prog ops Q rest (a.put o.dst (.tuple #[])) W'):wpList Tryz.prog ops Q (o::rest) a W:=by
 refine wpList_plain hg fun K' hK'=>?_
 obtain⟨W',hrun,r1,r2⟩:=h.del x hx o.type;unfold Oper.wp;simp[execOp,hop,resolve,invoke,builtin,hm,hk,hrun,Result.andThen];exact hK' _ _ (hK W' r1 (IJ hgr hb r2) (II r2))
def CW(n k:Int): Bool:=decide (0≤n)&&decide (n<8)&&decide (0≤k)&&decide (k<64)
theorem EQ{x:Tab.En}: CW x.node x.key=true↔CF x:=by
 unfold CW CF;simp only[Bool.and_eq_true,decide_eq_true_eq,and_assoc]
theorem GJ(n k:Int)(w:World): Calls Tryz.prog 136 #[.int .i64 n,.int .i64 k] w fun e w'=>e = .returned (.bool (CW n k))∧w=w':=by
 by_cases h1:0≤n
 ·by_cases h2:n<8
  ·by_cases h3:0≤k
   ·have hb:CW n k=decide (k<64):=by unfold CW;simp[h1,h2,h3]
    rw[hb];clear hb;go_enter Tryz.func136,Tryz.ntmps136;go_wp2;go_ret;exact⟨rfl,rfl⟩
   ·have hb:CW n k=false:=by unfold CW;simp[h3]
    rw[hb];clear hb;go_enter Tryz.func136,Tryz.ntmps136;go_wp2;go_ret;exact⟨rfl,rfl⟩
  ·have hb:CW n k=false:=by unfold CW;simp[h2]
   rw[hb];clear hb;go_enter Tryz.func136,Tryz.ntmps136;go_wp2;go_ret;exact⟨rfl,rfl⟩
 ·have hb:CW n k=false:=by unfold CW;simp[h1]
  rw[hb];clear hb;go_enter Tryz.func136,Tryz.ntmps136;go_wp2;go_ret;exact⟨rfl,rfl⟩
def Au(W:World)(t b n:Nat)(m:List Tab.En): Prop:=W.heap[t]? = some (.cells #[.map (some b)] 180)∧TabAt W b n m
theorem Au.ne{W:World}{t b n:Nat}{m:List Tab.En}(h:Au W t b n m): t≠b:=fun e=>by
 obtain⟨h1,D,⟨es,c,h2,-⟩,-⟩:=h;rw[e,h2] at h1;cases h1
theorem Au.grew{W W':World}{t b n:Nat}{m:List Tab.En}(h:Au W t b n m)(g:AA W W'): Au W' t b n m:=⟨AC g h.1,h.2.grew g⟩
theorem Au.more{W:World}{t b n n':Nat}{m:List Tab.En}(h:Au W t b n m)(hn:n≤n'): Au W t b n' m:=⟨h.1,h.2.more hn⟩
def EA(x:Tab.En): Bool:=CW x.node x.key&&(Ao x.c0&&Ao x.c1)
def M3(m:List Tab.En)(x:Tab.En): Int×List Tab.En:=if EA x then (0,Tab.setT m x) else (1,m)
def Wm(w0 W:World)(t b n:Nat)(r:Int×List Tab.En)(e:Ending)(W':World): Prop:=e = .returned (.int .i64 r.1)∧Au W' t b (n+1) r.2∧AA w0 W'∧A7 b W W'
theorem Zt:(Tryz.prog.info? 51).map (fun i=>(i.zero,i.size,i.bytes))=some (some (.agg #[.int .i64 0,.int .i64 0]),2,16):=by kernel_rfl
theorem Ed(x y:Int)(w:World): Calls Tryz.prog 68 #[.agg #[.int .i64 x,.int .i64 y]] w (Ac (.bool (Ao (x,y))) w):=YE (x,y) w
theorem Wn:Tryz.prog.cellsOf 51=2:=by kernel_rfl
theorem Jk(a b c d:Int)(w:World): (binOp .eql 52 (.agg #[.int .i64 a,.int .i64 b,.int .i64 c,.int .i64 d]) (.agg #[.int .i64 0,.int .i64 0,.int .i64 0,.int .i64 0])).run Tryz.prog w = .ok (.bool (((a,b):Val)==(0,0)&&((c,d):Val)==(0,0))) w:=by
 have h:(Op.equalIn 10000 52 (.agg #[.int .i64 a,.int .i64 b,.int .i64 c,.int .i64 d]) (.agg #[.int .i64 0,.int .i64 0,.int .i64 0,.int .i64 0])).run Tryz.prog w = .ok (((a,b):Val)==(0,0)&&((c,d):Val)==(0,0)) w:=by
  obtain⟨i,hi,_⟩:=info_parts Zt;have h0:=run_equalIn_array (P:=Tryz.prog) (w:=w) 9999 #[.int .i64 a,.int .i64 b,.int .i64 c,.int .i64 d] #[.int .i64 0,.int .i64 0,.int .i64 0,.int .i64 0] Tryz.underlying52 hi;rw[h0,show List.range 2=[0,1] from rfl,Wn];simp[Op.eqItems,go_sem,Tryz.underlying51,Tryz.underlying3];by_cases h1:a=0<;>by_cases h2:b=0<;>by_cases h3:c=0<;>by_cases h4:d=0<;>simp[h1,h2,h3,h4]
 simp[go_sem,h]
theorem Ur(w0 W:World)(t b n:Nat)(m:List Tab.En)(x:Tab.En)(hT:Au W t b n m)(hg:AA w0 W)(hb:w0.heap.size≤b)(hn:n<maxLen):
  Calls Tryz.prog 108 #[.pointer (some ⟨t,0,none⟩),.int .i64 x.node,.int .i64 x.key,Xl x.c0 x.c1] W (Wm w0 W t b n (M3 m x)):=by
 obtain⟨nd,ky,⟨p0,q0⟩,⟨p1,q1⟩⟩:=x;have HT:=hY hT;have HG:=hY hg;have HN:=hY hn;have hth:=hY (EQ (x:=⟨nd,ky,(p0,q0),(p1,q1)⟩));obtain⟨r,hr⟩:∃r,M3 m ⟨nd,ky,(p0,q0),(p1,q1)⟩=r:=⟨_,rfl⟩;rw[hr];have HR:=hY hr;have tc:=cell_of (o:=0) hT.1;simp at tc;have pt:=Ad.mk (AB hT.1);have HNE:=hY hT.ne;clear hT hg hn hr;show Calls Tryz.prog 108 #[.pointer (some ⟨t,0,none⟩),.int .i64 nd,.int .i64 ky,.agg #[.int .i64 p0,.int .i64 q0,.int .i64 p1,.int .i64 q1]] W _;cases h1:CW nd ky
 case false =>
  have H1:=hY h1;have hrr:r=(1,m):=by rw[←HR.o];unfold M3 EA;rw[show CW nd ky=false from h1];rfl
  subst hrr;clear h1;go_enter Tryz.func108,Tryz.ntmps108
  go_wp2_with (go_at_call 136;refine(GJ _ _ _).mono ?_;rintro e w1 ⟨rfl,rfl⟩;rw[H1.o])
  go_ret;exact⟨rfl,(HT.o.grew gw).more (Nat.le_succ _),HG.o.trans gw,A7.ofGrew gw⟩
 cases h2:Ao (p0,q0)
 case false =>
  have H1:=hY h1;have H2:=hY h2;have hrr:r=(1,m):=by rw[←HR.o];unfold M3 EA;rw[show Ao (p0,q0)=false from h2];simp
  subst hrr;clear h1 h2;go_enter Tryz.func108,Tryz.ntmps108
  go_wp2_with (first
   | (go_at_call 136;refine(GJ _ _ _).mono ?_;rintro e w1 ⟨rfl,rfl⟩;rw[H1.o])
   | (go_at_call 68;refine(Ed _ _ _).mono ?_;rintro e w1 ⟨rfl,R1,n1,rfl⟩;rw[H2.o]))
  go_ret;exact⟨rfl,(HT.o.grew gw).more (Nat.le_succ _),HG.o.trans gw,A7.ofGrew gw⟩
 cases h3:Ao (p1,q1)
 case false =>
  have H1:=hY h1;have H2:=hY h2;have H3:=hY h3;have hrr:r=(1,m):=by rw[←HR.o];unfold M3 EA;rw[show Ao (p1,q1)=false from h3];simp
  subst hrr;clear h1 h2 h3;go_enter Tryz.func108,Tryz.ntmps108
  go_wp2_with (first
   | (go_at_call 136;refine(GJ _ _ _).mono ?_;rintro e w1 ⟨rfl,rfl⟩;rw[H1.o])
   | (go_at_call_of 68 (Value.agg #[.int .i64 p0,.int .i64 q0]);refine(Ed _ _ _).mono ?_;rintro e w1 ⟨rfl,R1,n1,rfl⟩;rw[H2.o])
   | (go_at_call 68;refine(Ed _ _ _).mono ?_;rintro e w1 ⟨rfl,R2,n2,rfl⟩;rw[H3.o]))
  go_ret;exact⟨rfl,(HT.o.grew gw).more (Nat.le_succ _),HG.o.trans gw,A7.ofGrew gw⟩
 have H1:=hY h1;have H2:=hY h2;have H3:=hY h3;have hx:CF ⟨nd,ky,(p0,q0),(p1,q1)⟩:=hth.out.1 h1;have HX:=hY hx;have hrr:r=(0,Tab.setT m ⟨nd,ky,(p0,q0),(p1,q1)⟩):=by rw[←HR.o];unfold M3 EA;rw[show CW nd ky=true from h1,show Ao (p0,q0)=true from h2,show Ao (p1,q1)=true from h3];rfl
 subst hrr;clear h1 h2 h3 hx;cases hz:(((p0,q0):Val)==(0,0)&&((p1,q1):Val)==(0,0))
 ·have heq:=fun W=>Jk p0 q0 p1 q1 W
  rw[hz] at heq;have hst:Tab.setT m ⟨nd,ky,(p0,q0),(p1,q1)⟩=⟨nd,ky,(p0,q0),(p1,q1)⟩::m.filter fun y=>Tab.num y != Tab.num ⟨nd,ky,(p0,q0),(p1,q1)⟩:=by unfold Tab.setT Tab.nz;rw[hz];rfl
  have HST:=hY hst;clear hz hst;go_enter Tryz.func108,Tryz.ntmps108
  go_upto_region 1 with (first
   | (go_at_call 136;refine(GJ _ _ _).mono ?_;rintro e w1 ⟨rfl,rfl⟩;rw[H1.o])
   | (go_at_call_of 68 (Value.agg #[.int .i64 p0,.int .i64 q0]);refine(Ed _ _ _).mono ?_;rintro e w1 ⟨rfl,R1,n1,rfl⟩;rw[H2.o])
   | (go_at_call 68;refine(Ed _ _ _).mono ?_;rintro e w1 ⟨rfl,R2,n2,rfl⟩;rw[H3.o]))
  refine AY 8 Tryz.mixed (by kernel_rfl) (by kernel_rfl) ?_
  iterate 8
   apply Ch.val
   focus
    rintro w1 u ⟨R1,n1,rfl⟩ hF;simp[AR,AU.more,Oper.deps,Region.binds,List.filter_cons,World.more_drew] at hF;simp[AL,Oper.deps,Region.binds,List.filter_cons,Region.dstOf,AU.at,Act.put,World.more_drew];go_wp2;exact⟨gw,rfl,_,_,rfl,rfl,rfl⟩
  rintro u w1 ⟨R1,n1,rfl⟩ hF;clear hF;simp[AL,Region.dstOf,AU.at,Act.put,List.range_succ,World.more_drew];refine Og (w0:=w0) rfl (.tmp 12) (.tmp 15) (.tmp 16) rfl (HG.o.trans gw) hb rfl (HT.o.2.grew gw) HN.o ⟨nd,ky,(p0,q0),(p1,q1)⟩ HX.o rfl rfl ?_;intro W5 h5 g5 k5;have H5:=hY h5;have G5:=hY g5;have K5:=hY k5;clear h5 g5 k5;go_wp2;go_ret;exact⟨rfl,⟨by rw[K5.out.2 t (by have:=AB HT.o.1;simp[go_sem];omega) HNE.o];exact(HT.o.grew gw).1,by rw[HST.o];exact H5.o⟩,G5.out,(A7.ofGrew gw).trans K5.out⟩
 ·have heq:=fun W=>Jk p0 q0 p1 q1 W
  rw[hz] at heq;have hst:Tab.setT m ⟨nd,ky,(p0,q0),(p1,q1)⟩=m.filter fun y=>Tab.num y != Tab.num ⟨nd,ky,(p0,q0),(p1,q1)⟩:=by unfold Tab.setT Tab.nz;rw[hz];rfl
  have HST:=hY hst;clear hz hst;go_enter Tryz.func108,Tryz.ntmps108
  go_wp2_with (first
   | (go_at_call 136;refine(GJ _ _ _).mono ?_;rintro e w1 ⟨rfl,rfl⟩;rw[H1.o])
   | (go_at_call_of 68 (Value.agg #[.int .i64 p0,.int .i64 q0]);refine(Ed _ _ _).mono ?_;rintro e w1 ⟨rfl,R1,n1,rfl⟩;rw[H2.o])
   | (go_at_call 68;refine(Ed _ _ _).mono ?_;rintro e w1 ⟨rfl,R2,n2,rfl⟩;rw[H3.o])
   | (refine JW (w0:=w0) rfl (.tmp 45) (.tmp 48) rfl (HG.o.trans gw) hb rfl (HT.o.2.grew gw) ⟨nd,ky,(p0,q0),(p1,q1)⟩ HX.o rfl ?_;intro W5 h5 g5 k5;(have H5:=hY h5);(have G5:=hY g5);(have K5:=hY k5);clear h5 g5 k5))
  go_ret;exact⟨rfl,⟨by rw[K5.out.2 t (by have:=AB HT.o.1;simp[go_sem];omega) HNE.o];exact(HT.o.grew gw).1,by rw[HST.o];exact H5.o.more (Nat.le_succ _)⟩,G5.out,(A7.ofGrew gw).trans K5.out⟩
def Ci(x:Tab.En): List Value:=[.int .i64 x.node,.int .i64 x.key,.int .i64 x.c0.1,.int .i64 x.c0.2,.int .i64 x.c1.1,.int .i64 x.c1.2]
theorem Az(x:Tab.En): (Ci x).length=6:=rfl
theorem E5(x:Tab.En): ∀u∈Ci x,u.oneCell'=true:=by
 intro u hu;simp[Ci] at hu;rcases hu with rfl|rfl|rfl|rfl|rfl|rfl<;>rfl
abbrev Bp(w:World)(v:Value)(l:List Tab.En): Prop:=AX 6 Ci w v l
theorem Bp.open6{w:World}{v:Value}{l:List Tab.En}(h:Bp w v l): ∃a cap,v = .slice a l.length cap∧l.length≤9223372036854775807∧∀i (hi:i<l.length),∃b off,a=some ⟨b,off,none⟩∧Ad b w ∧
  w.cell? ⟨b,off+i*6,none⟩=some (.int .i64 l[i].node)∧w.cell? ⟨b,off+i*6+1,none⟩=some (.int .i64 l[i].key)∧w.cell? ⟨b,off+i*6+2,none⟩=some (.int .i64 l[i].c0.1)∧w.cell? ⟨b,off+i*6+3,none⟩=some (.int .i64 l[i].c0.2)∧w.cell? ⟨b,off+i*6+4,none⟩=some (.int .i64 l[i].c1.1)∧w.cell? ⟨b,off+i*6+5,none⟩=some (.int .i64 l[i].c1.2):=by
 obtain⟨a,cap,rfl,hm,hx⟩:=h;refine⟨a,cap,rfl,by unfold maxLen at hm;omega,fun i hi=>?_⟩;obtain⟨b,off,rfl,hc⟩:=hx (by intro e;subst e;simp at hi);have hj:=fun j u=>hc i l[i] (List.getElem?_eq_getElem hi) j u
 have h0:=hj 0 _ rfl;exact⟨b,off,rfl,Ad.mk (World.block_lt_of_cell? w _ h0),h0,hj 1 _ rfl,hj 2 _ rfl,hj 3 _ rfl,hj 4 _ rfl,hj 5 _ rfl⟩
theorem Zo(w0 W:World)(t b n:Nat)(m:List Tab.En)(nd ky p0 q0 p1 q1:Int)(hT:Au W t b n m)(hg:AA w0 W)(hb:w0.heap.size≤b)(hn:n<maxLen):
  Calls Tryz.prog 108 #[.pointer (some ⟨t,0,none⟩),.int .i64 nd,.int .i64 ky,.agg #[.int .i64 p0,.int .i64 q0,.int .i64 p1,.int .i64 q1]] W (Wm w0 W t b n (M3 m ⟨nd,ky,(p0,q0),(p1,q1)⟩)):=Ur w0 W t b n m ⟨nd,ky,(p0,q0),(p1,q1)⟩ hT hg hb hn
def CG(l:List Tab.En): Bool:=l.all EA
theorem SA{l:List Tab.En}{k:Nat}(hk:k<l.length)(h:EA l[k]=false): CG l=false:=by
 unfold CG;rw[List.all_eq_false];exact⟨_,List.getElem_mem hk,by rw[h];simp⟩
theorem Xm{l:List Tab.En}{k:Nat}(hk:k<l.length): Tab.newT (l.take (k+1))=Tab.setT (Tab.newT (l.take k)) l[k]:=by
 rw[List.take_succ_eq_append_getElem hk,Tab.newT_snoc]
def A10(l:List Tab.En)(w:World)(e:Ending)(w':World): Prop :=
 (CG l=true∧∃t b,e = .returned (.tuple #[.pointer (some ⟨t,0,none⟩),.int .i64 0])∧Au w' t b l.length (Tab.newT l)∧w.heap.size≤t∧w.heap.size≤b∧AA w w') ∨
 (CG l=false∧e = .returned (.tuple #[.pointer none,.int .i64 1])∧AA w w')
theorem M0(v:Value)(l:List Tab.En)(w:World)(hv:Bp w v l)(hl:l.length≤100000): Calls Tryz.prog 74 #[v] w (A10 l w):=by
 have HV:=hY hv;obtain⟨a,cap,rfl,hm,-⟩:=Bp.open6 hv;have hmm:=@run_makeMap Tryz.prog;clear hv;go_enter Tryz.func74,Tryz.ntmps74;go_wp2;have HT0:Hid (Au ((w.alloc (.map #[] 0)).alloc (.cells #[.map (some w.heap.size)] 180)) (w.heap.size+1) w.heap.size 0 []):=hY ⟨AO _ _ _ (by simp[World.size_alloc]),(TabAt.made w).grew gw⟩;clear hmm
 go_loopg [13] l.length (fun gg s13 wr=>∃k:Nat,k≤l.length∧l.length-k≤gg∧s13 = .int .i64 k∧Hid (Au wr (w.heap.size+1) w.heap.size k (Tab.newT (l.take k)))∧Hid (AA w wr)∧Hid (∀i (h:i<l.length),i<k→EA l[i]=true))
 case atStart=>exact⟨0,by omega,by omega,rfl,HT0,hY gw,hY fun i _ h=>by omega⟩
 case round =>
  obtain⟨k,hk,hgg,rfl,HT,HG,HOK⟩:=hrel;by_cases hlt:k<l.length
  ·obtain⟨a',cap',e,-,hx⟩:=Bp.open6 (HV.o.grew HG.o);cases e;obtain⟨b,off,rfl,hb,c0,c1,c2,c3,c4,c5⟩:=hx k hlt;have HNS:=hY (Xm hlt);have HNF:=hY fun h=>SA hlt h
   have HKX:Hid (EA l[k]=true→∀i (hi:i<l.length),i<k+1→EA l[i]=true):=hY fun h i hi h2=>(Nat.lt_or_ge i k).elim (HOK.o i hi) fun h3=>by
    obtain rfl:i=k:=by omega
    exact h
   clear hx;generalize l[k]=x at *;obtain⟨nd,ky,⟨p0,q0⟩,⟨p1,q1⟩⟩:=x;simp only at c0 c1 c2 c3 c4 c5;have HS:=hY fun W (g:AA wr W)=>Zo w W (w.heap.size+1) w.heap.size k _ nd ky p0 q0 p1 q1 (HT.o.grew g) (HG.o.trans g) (Nat.le_refl _) (by unfold maxLen;omega)
   cases hok:EA ⟨nd,ky,(p0,q0),(p1,q1)⟩
   ·have hr:M3 (Tab.newT (l.take k)) ⟨nd,ky,(p0,q0),(p1,q1)⟩=(1,Tab.newT (l.take k)):=by unfold M3;rw[hok];rfl
    rw[hr] at HS;have HNF2:=hY (HNF.o hok);clear hok hr
    go_wp2_with (go_at_call 108;refine(HS.o _ gw).mono ?_;rintro e w1 ⟨rfl,h1,hg1,hk1⟩;(have HG1:=hY hg1);clear h1 hg1 hk1;simp only)
    go_ret2;exact .inr ⟨HNF2.o,rfl,HG1.o⟩
   ·have hr:M3 (Tab.newT (l.take k)) ⟨nd,ky,(p0,q0),(p1,q1)⟩=(0,Tab.setT (Tab.newT (l.take k)) ⟨nd,ky,(p0,q0),(p1,q1)⟩):=by unfold M3;rw[hok];rfl
    rw[hr] at HS;have HKX2:=hY (HKX.o hok);clear hok hr
    go_wp2_with (go_at_call 108;refine(HS.o _ gw).mono ?_;rintro e w1 ⟨rfl,h1,hg1,hk1⟩;(have HG1:=hY hg1);(have HT1:=hY h1);clear h1 hg1 hk1;simp only)
    go_roundg (l.length-(k+1))
    case measure=>omega
    case rel=>exact⟨k+1,by omega,by omega,by go_num,hY (by rw[HNS.o];exact HT1.o),HG1,HKX2⟩
  ·obtain rfl:k=l.length:=by omega
   have hT:=HT.o;rw[List.take_length] at hT;have HT9:=hY hT;clear hT;go_wp2;go_ret2;refine .inl ⟨?_,_,_,rfl,HT9.o,by omega,Nat.le_refl _,HG.o⟩;unfold CG;rw[List.all_eq_true];intro x hx;obtain⟨i,hi,rfl⟩:=List.mem_iff_getElem.1 hx;exact HOK.o i hi hi
def Zw(x v:Value)(w:World): Prop:=∃b o,v = .pointer (some ⟨b,o,none⟩)∧w.cell? ⟨b,o,none⟩=some x
theorem LH{w w':World}{b o:Nat}{x:Value}(h:w.cell? ⟨b,o,none⟩=some x)(g:AA w w'): w'.cell? ⟨b,o,none⟩=some x:=by
 obtain⟨R,n,rfl⟩:=g;rw[World.cell?_more_past R n _ _ (Ad.ofCell h)];exact h
theorem Zw.st(x:Value): ∀v w w',Zw x v w→AA w w'→Zw x v w':=fun _ _ _ ⟨b,o,h1,h2⟩ g=>⟨b,o,h1,LH h2 g⟩
def KP(v:Value)(w:World): Prop:=∃b,v = .slice (some ⟨b,0,none⟩) 18 18∧∀j,j<18→w.cell? ⟨b,j,none⟩=some (.string ⟨(Co.namesL.getD j []).toArray⟩)
theorem KP.st:∀v w w',KP v w→AA w w'→KP v w':=fun _ _ _ ⟨b,h1,h2⟩ g=>⟨b,h1,fun j hj=>LH (h2 j hj) g⟩
theorem Qg:∀j,j<18→((Co.namesL.map fun l=>Value.string ⟨l.toArray⟩).toArray)[j]? = some (.string ⟨(Co.namesL.getD j []).toArray⟩):=by
 intro j hj;have h:j<Co.namesL.length:=hj;rw[List.getD_eq_getElem?_getD,List.getElem?_eq_getElem h];simp[List.getElem?_eq_getElem h]
theorem KP.fresh(w:World)(t:TypeId): KP (.slice (some ⟨w.heap.size,0,none⟩) 18 18) (w.alloc (.cells (Co.namesL.map fun l=>Value.string ⟨l.toArray⟩).toArray t)) :=
 ⟨_,rfl,fun j hj=>by rw[World.cell?_alloc_at _ _ _ _ (by simp)];exact Qg j hj⟩
def Asc (w : World) : Prop := Lib.TabIs Tryz.prog w "strings.asciiSpace" .u8 Lib.asciiSpaceTab
theorem Asc.grew{w w':World}(h:Asc w)(g:AA w w'): Asc w':=Sd h g
theorem Wu(d:Nat)(a b c e a' b' c' e':Int)(w:World): (Op.equalIn (d+4) 52 (.agg #[.int .i64 a,.int .i64 b,.int .i64 c,.int .i64 e]) (.agg #[.int .i64 a',.int .i64 b',.int .i64 c',.int .i64 e'])).run Tryz.prog w = .ok (decide (a=a'∧b=b'∧c=c'∧e=e')) w:=by
 obtain⟨i,hi,_⟩:=info_parts Zt;have h0:=run_equalIn_array (P:=Tryz.prog) (w:=w) (d+3) #[.int .i64 a,.int .i64 b,.int .i64 c,.int .i64 e] #[.int .i64 a',.int .i64 b',.int .i64 c',.int .i64 e'] Tryz.underlying52 hi;rw[h0,show List.range 2=[0,1] from rfl,Wn];simp[Op.eqItems,go_sem,Tryz.underlying51,Tryz.underlying3];by_cases h1:a=a'<;>by_cases h2:b=b'<;>by_cases h3:c=c'<;>by_cases h4:e=e'<;>simp[h1,h2,h3,h4]
theorem MC(nd ky p0 q0 p1 q1 nd' ky' p0' q0' p1' q1':Int)(r:Bool)(h:(!(decide (nd=nd'∧ky=ky'∧p0=p0'∧q0=q0'∧p1=p1'∧q1=q1')))=r)(w:World): (binOp .neq 57 (.agg #[.int .i64 nd,.int .i64 ky,.int .i64 p0,.int .i64 q0,.int .i64 p1,.int .i64 q1]) (.agg #[.int .i64 nd',.int .i64 ky',.int .i64 p0',.int .i64 q0',.int .i64 p1',.int .i64 q1'])).run Tryz.prog w = .ok (.bool r) w:=by
 subst h;simp[go_sem,Wu,Tryz.underlying57,Tryz.underlying3];by_cases h0:nd=nd'<;>by_cases h1:ky=ky'<;>by_cases h2:p0=p0'<;>by_cases h3:q0=q0'<;>by_cases h4:p1=p1'<;>by_cases h5:q1=q1'<;>simp[h0,h1,h2,h3,h4,h5]
theorem Gy(x y:Int)(w:World): Calls Tryz.prog 43 #[.agg #[.int .i64 x,.int .i64 y]] w (Ac (.bool (Ao (x,y))) w):=by
 have H:Ao (x,y)=(decide (BV x=x)&&decide (BV y=y)):=by
  unfold Ao;simp only[eq_comm]
 by_cases h1:BV x=x<;>by_cases h2:BV y=y
 all_goals
  rw[H];simp only[h1,h2,decide_true,decide_false,Bool.and_true,Bool.and_false,Bool.and_self];clear H
  try (have h1':¬x=BV x:=fun e=>h1 e.symm)
  try (have h2':¬y=BV y:=fun e=>h2 e.symm)
  go_enter Tryz.func43,Tryz.ntmps43;go_wp2;refine AY 8 Tryz.mixed (by kernel_rfl) (by kernel_rfl) ?_
  iterate 8
   apply Ch.val
   focus
    rintro w1 u ⟨R1,n1,rfl⟩ -;simp[AL,Oper.deps,Region.binds,List.filter_cons,Region.dstOf,AU.at,Act.put,World.more_drew]
    go_wp2_with (first
    | (go_at_call 86;refine(YD _ _ _).mono ?_;rintro e w1 ⟨rfl,R1,n1,rfl⟩))
    exact⟨by repeat (first|exact AA.refl _|apply AA.more|apply AA.alloc|apply AA.drew),rfl,_,_,rfl,rfl,rfl⟩
  rintro u w1 ⟨R1,n1,rfl⟩ -;simp[AL,Region.dstOf,AU.at,Act.put,List.range_succ,World.more_drew];go_wp2;go_ret;refine⟨by simp[h1,h2],?_⟩
  repeat (first|exact AA.refl _|apply AA.more|apply AA.alloc|apply AA.drew)
theorem Ir(nd ky p0 q0 p1 q1:Int)(w:World): Calls Tryz.prog 13 #[.agg #[.int .i64 nd,.int .i64 ky,.int .i64 p0,.int .i64 q0,.int .i64 p1,.int .i64 q1]] w (Ac (.bool (EA ⟨nd,ky,(p0,q0),(p1,q1)⟩)) w):=by
 obtain⟨r,hr⟩:∃r,EA ⟨nd,ky,(p0,q0),(p1,q1)⟩=r:=⟨_,rfl⟩;rw[hr];have hr2:r=(decide (0≤nd)&&decide (nd<8)&&decide (0≤ky)&&decide (ky<64)&&(Ao (p0,q0)&&Ao (p1,q1))):=hr.symm;clear hr;have HV0:=hY fun W=>Gy p0 q0 W
 have HV1:=hY fun W=>Gy p1 q1 W
 generalize Ao (p0,q0)=b0 at *;generalize Ao (p1,q1)=b1 at *;by_cases h1:0≤nd
 case neg =>
  have hr3:r=false:=by rw[hr2];simp[h1]
  subst hr3;clear HV0 HV1 hr2;go_enter Tryz.func13,Tryz.ntmps13;go_wp2;go_ret;exact⟨rfl,gw⟩
 by_cases h2:nd<8
 case neg =>
  have hr3:r=false:=by rw[hr2];simp[h2]
  subst hr3;clear HV0 HV1 hr2;go_enter Tryz.func13,Tryz.ntmps13;go_wp2;go_ret;exact⟨rfl,gw⟩
 by_cases h3:0≤ky
 case neg =>
  have hr3:r=false:=by rw[hr2];simp[h3]
  subst hr3;clear HV0 HV1 hr2;go_enter Tryz.func13,Tryz.ntmps13;go_wp2;go_ret;exact⟨rfl,gw⟩
 by_cases h4:ky<64
 case neg =>
  have hr3:r=false:=by rw[hr2];simp[h4]
  subst hr3;clear HV0 HV1 hr2;go_enter Tryz.func13,Tryz.ntmps13;go_wp2;go_ret;exact⟨rfl,gw⟩
 simp only[h1,h2,h3,h4,decide_true,Bool.true_and] at hr2;cases b0
 ·subst hr2;go_enter Tryz.func13,Tryz.ntmps13
  go_wp2_with (go_at_call 43;refine(HV0.o _).mono ?_;rintro e w1 ⟨rfl,R1,n1,rfl⟩)
  go_ret;exact⟨rfl,gw⟩
 ·obtain rfl:r=b1:=by simpa using hr2
  clear hr2;go_enter Tryz.func13,Tryz.ntmps13
  go_wp2_with fail
  refine(HV0.o _).mono ?_;rintro e w1 ⟨rfl,R1,n1,rfl⟩
  go_wp2_with fail
  refine(HV1.o _).mono ?_;rintro e w1 ⟨rfl,R2,n2,rfl⟩;go_wp2;go_ret;exact⟨rfl,gw⟩
def A09(k:Int)(v:Val): Bool:=decide (0≤k)&&decide (k<64)&&Ao v
theorem RV(ky p q:Int)(w:World): Calls Tryz.prog 48 #[.agg #[.int .i64 ky,.int .i64 p,.int .i64 q]] w (Ac (.bool (A09 ky (p,q))) w):=by
 obtain⟨r,hr⟩:∃r,A09 ky (p,q)=r:=⟨_,rfl⟩;rw[hr];have hr2:r=(decide (0≤ky)&&decide (ky<64)&&Ao (p,q)):=hr.symm;clear hr;have HV0:=hY fun W=>Gy p q W
 generalize Ao (p,q)=b0 at *;by_cases h3:0≤ky
 case neg =>
  have hr3:r=false:=by rw[hr2];simp[h3]
  subst hr3;clear HV0 hr2;go_enter Tryz.func48,Tryz.ntmps48;go_wp2;go_ret;exact⟨rfl,gw⟩
 by_cases h4:ky<64
 case neg =>
  have hr3:r=false:=by rw[hr2];simp[h4]
  subst hr3;clear HV0 hr2;go_enter Tryz.func48,Tryz.ntmps48;go_wp2;go_ret;exact⟨rfl,gw⟩
 simp only[h3,h4,decide_true,Bool.true_and] at hr2;subst hr2;go_enter Tryz.func48,Tryz.ntmps48
 go_wp2_with fail
 refine(HV0.o _).mono ?_;rintro e w1 ⟨rfl,R1,n1,rfl⟩;go_wp2;go_ret;exact⟨rfl,gw⟩
end Go.Proofs.YtgebkpgilgppgaaGreat
