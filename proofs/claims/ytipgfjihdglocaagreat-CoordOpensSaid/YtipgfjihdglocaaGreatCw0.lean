import Derived.WalkKit
import Derived.WalkSpells
import Derived.Below
import Derived.Deep.Draws
import Derived.Orders
import Derived.Tactics
import Derived.KernelRfl
import Derived.OwnWalk
import Derived.Laws.AppendOwnNone
import Derived.ArgAppend
import Derived.Test.YtipgfjihdglocaaGreatRows
import Derived.Lib.ItoaNum
import Derived.Lib.Hide
import Derived.Outline
import Derived.LoopTactic
import Derived.ProofKit
import Derived.OpenShut
import Derived.Carry
import Derived.Deep.Slices
import Derived.Laws.CopyRow
set_option linter.unusedSimpArgs false
set_option linter.unusedVariables false
set_option maxRecDepth 100000
set_option maxHeartbeats 64000000
namespace Go
open Go.RowKit
theorem hY{p:Prop}(h:p):Hid p:=h
theorem RowKit.Hid.o{p:Prop}(h:Hid p):p:=h
def World.more(w:World)(R:Array Obj)(n:Nat): World:={ w with heap:=w.heap++R,drawn:=n }
section
variable {w:World}
@[go_sem] theorem World.more_size (R:Array Obj) (n:Nat):(w.more R n).heap.size=w.heap.size+R.size:=by simp[World.more]
@[go_sem] theorem World.drew_more (R:Array Obj) (n:Nat):(w.more R n).drew=w.more R (n+1):=rfl
@[go_sem] theorem World.more_drew (R:Array Obj) (n:Nat):w.drew.more R n=w.more R n:=rfl
theorem World.more_more(R R':Array Obj)(n n':Nat): (w.more R n).more R' n'=w.more (R++R') n':=by simp[World.more]
theorem World.more_alloc(R:Array Obj)(n:Nat)(o:Obj): (w.more R n).alloc o=w.more (R.push o) n:=by
 show World.mk _ _ _ _ _=World.mk _ _ _ _ _
 congr 1
 exact(Array.append_push).symm
theorem World.alloc_more(o:Obj): w.alloc o=w.more #[o] w.drawn:=by
 show World.mk _ _ _ _ _=World.mk _ _ _ _ _
 congr 1
theorem World.self_more:w=w.more #[] w.drawn:=by
 show w=World.mk _ _ _ _ _;rw[Array.append_empty]
theorem World.drew_as_more:w.drew=w.more #[] (w.drawn+1):=by
 show World.mk _ _ _ _ _=World.mk _ _ _ _ _;rw[Array.append_empty]
theorem World.more_drawn(R:Array Obj)(n:Nat): (w.more R n).drawn=n:=rfl
theorem World.heap_more(R:Array Obj)(n b:Nat)(h:b<w.heap.size): (w.more R n).heap[b]? = w.heap[b]? :=by
 simp[World.more,Array.getElem?_append,h]
theorem World.cell?_more_past(R:Array Obj)(n b i:Nat)(h:b<w.heap.size): (w.more R n).cell? ⟨b,i,none⟩=w.cell? ⟨b,i,none⟩:=by
 unfold World.cell?;simp only[World.heap_more R n b h]
theorem World.frozen?_more_past(R:Array Obj)(n b i:Nat)(h:b<w.heap.size): (w.more R n).frozen? ⟨b,i,none⟩=w.frozen? ⟨b,i,none⟩:=by
 unfold World.frozen?;simp only[World.heap_more R n b h]
theorem World.setCell_more_past(R:Array Obj)(n b i:Nat)(v:Value)(h:b<w.heap.size): (w.more R n).setCell ⟨b,i,none⟩ v=(w.setCell ⟨b,i,none⟩ v).more R n:=by
 unfold World.setCell World.more
 congr 1
 apply Array.ext_getElem?;intro k;simp only[Array.getElem?_modify,Array.getElem?_append,Array.size_modify];by_cases hk:k<w.heap.size
 ·simp[hk]
 ·have:b≠k:=by omega
  simp[hk,this]
theorem World.shape?_more_past(R:Array Obj)(n b:Nat)(h:b<w.heap.size): (w.more R n).shape? b=w.shape? b:=by
 unfold World.shape?;simp only[World.heap_more R n b h]
theorem Below.ofMore(R:Array Obj)(n:Nat): Below w.heap.size w (w.more R n) :=
 ⟨rfl,rfl,rfl,by simp[World.more],fun k hk=>World.heap_more R n k hk⟩
theorem Below.toMore{w':World}(h:Below w.heap.size w w'): ∃R n,w'=w.more R n:=by
 refine⟨w'.heap.extract w.heap.size w'.heap.size,w'.drawn,?_⟩;obtain⟨h1,h2,h3,h4,h5⟩:=h;cases w';cases w;simp only[World.more] at *;subst h1 h2 h3
 congr 1
 apply Array.ext_getElem?;intro k;simp only[Array.getElem?_append,Array.getElem?_extract];split
 ·rename_i hk;exact h5 k hk
 ·rename_i hk
  split
  ·congr 1;omega
  ·rename_i h6;rw[Array.getElem?_eq_none];omega
end
def Grew(w w':World): Prop:=∃R n,w'=w.more R n
theorem Grew.refl(w:World): Grew w w:=⟨_,_,World.self_more⟩
theorem Grew.alloc{w w':World}(h:Grew w w')(o:Obj): Grew w (w'.alloc o):=by obtain⟨R,n,rfl⟩:=h;exact⟨_,_,World.more_alloc R n o⟩
theorem Grew.more{w w':World}(h:Grew w w')(R:Array Obj)(n:Nat): Grew w (w'.more R n):=by obtain⟨R',n',rfl⟩:=h;exact⟨_,_,World.more_more R' R n' n⟩
theorem Grew.drew{w w':World}(h:Grew w w'): Grew w w'.drew:=by obtain⟨R',n',rfl⟩:=h;exact⟨_,_,World.drew_more R' n'⟩
theorem Grew.drewN{w w':World}(h:Grew w w')(n:Nat): Grew w (w'.drewN n):=by obtain⟨R',n',rfl⟩:=h;exact⟨R',n'+n,rfl⟩
theorem Grew.trans{a b c:World}(h:Grew a b)(k:Grew b c): Grew a c:=by obtain⟨R,n,rfl⟩:=k;exact h.more R n
theorem gw{w w':World}(h:Grew w w':=by repeat (first|with_reducible exact Grew.refl _|apply Grew.more|apply Grew.alloc|apply Grew.drew|apply Grew.drewN)): Grew w w':=h
theorem Grew.below{w w':World}(h:Grew w w'): Below w.heap.size w w':=by obtain⟨R,n,rfl⟩:=h;exact Below.ofMore R n
theorem Grew.ofBelow{w w':World}(h:Below w.heap.size w w'): Grew w w':=Below.toMore h
theorem below_freeze{B:Nat}{a w:World}(h:Below B a w){p:Addr}(hp:B≤p.block)(n:Nat): Below B a (w.freeze p n):=by
 unfold World.freeze;split
 ·exact h
 ·refine h.trans ⟨rfl,rfl,rfl,by simp,fun k hk=>?_⟩;simp only[Array.getElem?_modify];rw[if_neg (by omega)]
def Pre(b:Nat)(W:World): Prop:=b<W.heap.size
def PreIn(b:Nat)(s:Nat)(R:Array Obj): Prop:=s≤b∧b<s+R.size
theorem Pre.mk{b:Nat}{W:World}(h:b<W.heap.size): Pre b W:=h
theorem Pre.ofCell{b o:Nat}{W:World}{v:Value}(h:W.cell? ⟨b,o,none⟩=some v): Pre b W:=World.block_lt_of_cell? W ⟨b,o,none⟩ h
@[go_sem] theorem Pre.alloc_iff (b:Nat) (W:World) (o:Obj):Pre b (W.alloc o)=(b=W.heap.size∨Pre b W):=by
 unfold Pre;rw[World.size_alloc];apply propext;omega
@[go_sem] theorem Pre.setCell_iff (b:Nat) (W:World) (a:Addr) (v:Value):Pre b (W.setCell a v)=Pre b W:=by
 unfold Pre;rw[World.size_setCell]
@[go_sem] theorem Pre.drew_iff (b:Nat) (W:World):Pre b W.drew=Pre b W:=rfl
@[go_sem] theorem Pre.more_iff (b:Nat) (W:World) (R:Array Obj) (n:Nat):Pre b (W.more R n)=(Pre b W∨PreIn b W.heap.size R):=by
 unfold Pre PreIn;rw[World.more_size];apply propext;omega
section
variable {w:World}
@[go_sem] theorem World.cell?_alloc_pre (o:Obj) (b i:Nat) (h:Pre b w):(w.alloc o).cell? ⟨b,i,none⟩=w.cell? ⟨b,i,none⟩:=World.cell?_alloc_past o b i h
@[go_sem] theorem World.frozen?_alloc_pre (o:Obj) (b i:Nat) (h:Pre b w):(w.alloc o).frozen? ⟨b,i,none⟩=w.frozen? ⟨b,i,none⟩:=World.frozen?_alloc_past o b i h
@[go_sem] theorem World.setCell_alloc_pre (o:Obj) (b i:Nat) (v:Value) (h:Pre b w):(w.alloc o).setCell ⟨b,i,none⟩ v=(w.setCell ⟨b,i,none⟩ v).alloc o:=World.setCell_alloc_past o b i v h
@[go_sem] theorem World.cell?_more_pre (R:Array Obj) (n b i:Nat) (h:Pre b w):(w.more R n).cell? ⟨b,i,none⟩=w.cell? ⟨b,i,none⟩:=World.cell?_more_past R n b i h
@[go_sem] theorem World.frozen?_more_pre (R:Array Obj) (n b i:Nat) (h:Pre b w):(w.more R n).frozen? ⟨b,i,none⟩=w.frozen? ⟨b,i,none⟩:=World.frozen?_more_past R n b i h
@[go_sem] theorem World.setCell_more_pre (R:Array Obj) (n b i:Nat) (v:Value) (h:Pre b w):(w.more R n).setCell ⟨b,i,none⟩ v=(w.setCell ⟨b,i,none⟩ v).more R n:=World.setCell_more_past R n b i v h
end
def inCell(s:Nat)(R:Array Obj)(b o:Nat): Option Value:=match R[b-s]? with|some (.cells c _ _)=>c[o]? | _=>none
def inFrozen(s:Nat)(R:Array Obj)(b o:Nat): Bool:=match R[b-s]? with|some (.cells _ _ (lo,hi))=>lo≤o&&o<hi|_=>false
def inSet(s:Nat)(R:Array Obj)(b o:Nat)(v:Value): Array Obj:=R.modify (b-s) fun | .cells c e f=>.cells (c.setIfInBounds o v) e f|x=>x
theorem heap_more_in(w:World)(R:Array Obj)(n b:Nat)(h:w.heap.size≤b): (w.more R n).heap[b]? = R[b-w.heap.size]? :=by
 simp only[World.more];rw[Array.getElem?_append_right h]
section
variable {w:World}
@[go_sem] theorem World.cell?_more_in (R:Array Obj) (n b i:Nat) (h:PreIn b w.heap.size R):(w.more R n).cell? ⟨b,i,none⟩=inCell w.heap.size R b i:=by
 unfold World.cell? inCell;simp only[heap_more_in w R n b h.1];rfl
@[go_sem] theorem World.frozen?_more_in (R:Array Obj) (n b i:Nat) (h:PreIn b w.heap.size R):(w.more R n).frozen? ⟨b,i,none⟩=inFrozen w.heap.size R b i:=by
 unfold World.frozen? inFrozen;simp only[heap_more_in w R n b h.1];rfl
@[go_sem] theorem World.setCell_more_in (R:Array Obj) (n b i:Nat) (v:Value) (h:PreIn b w.heap.size R):(w.more R n).setCell ⟨b,i,none⟩ v=w.more (inSet w.heap.size R b i v) n:=by
 unfold World.setCell World.more inSet
 congr 1
 apply Array.ext_getElem?;intro k;simp only[Array.getElem?_modify,Array.getElem?_append];obtain⟨h1,h2⟩:=h;by_cases hk:k<w.heap.size
 ·have:b≠k:=by omega
  simp[hk,this]
 ·by_cases hb:b=k
  ·subst hb;simp only[hk,if_false,if_true]
   cases R[b-w.heap.size]? with
   | none=>rfl
   | some o=>cases o<;>rfl
  ·have:b-w.heap.size≠k-w.heap.size:=by omega
   simp[hk,hb,this]
end
@[go_sem] theorem PreIn.set_iff (b s:Nat) (R:Array Obj) (b' o:Nat) (v:Value):PreIn b s (inSet s R b' o v)=PreIn b s R:=by
 unfold PreIn inSet;rw[Array.size_modify]
@[go_sem] theorem inCell_inSet_same (s:Nat) (R:Array Obj) (b o:Nat) (v:Value) (h:(inCell s R b o).isSome=true):inCell s (inSet s R b o v) b o=some v:=by
 unfold inCell inSet at *;rw[Array.getElem?_modify,if_pos rfl]
 cases hr:R[b-s]? with
 | none=>rw[hr] at h;simp at h
 |some x =>
  rw[hr] at h;cases x<;>simp at h ⊢
  rename_i c e f
  simp[h]
@[go_sem] theorem inCell_inSet_off (s:Nat) (R:Array Obj) (b o o':Nat) (v:Value) (h:o≠o'):inCell s (inSet s R b o v) b o'=inCell s R b o':=by
 unfold inCell inSet;rw[Array.getElem?_modify,if_pos rfl]
 cases R[b-s]? with
 | none=>rfl
 | some x=>cases x<;>simp[h]
@[go_sem] theorem inCell_inSet_blk (s:Nat) (R:Array Obj) (b b' o o':Nat) (v:Value) (h:b≠b') (h1:PreIn b s R) (h2:PreIn b' s R):inCell s (inSet s R b o v) b' o'=inCell s R b' o':=by
 obtain⟨h3,_⟩:=h1;obtain⟨h4,_⟩:=h2;unfold inCell inSet;rw[Array.getElem?_modify,if_neg (by omega)]
@[go_sem] theorem inFrozen_inSet (s:Nat) (R:Array Obj) (b b' o o':Nat) (v:Value):inFrozen s (inSet s R b o v) b' o'=inFrozen s R b' o':=by
 unfold inFrozen inSet;rw[Array.getElem?_modify];by_cases h:b-s=b'-s
 ·rw[if_pos h]
  cases R[b'-s]? with
  | none=>rfl
  | some x=>cases x<;>rfl
 ·rw[if_neg h]
theorem in_of_heap{W:World}{R:Array Obj}{n b:Nat}{c:Array Value}{t:TypeId}(h:(W.more R n).heap[b]? = some (.cells c t))(hs:W.heap.size≤b):
  PreIn b W.heap.size R∧(∀o,inCell W.heap.size R b o=c[o]?)∧(∀o,inFrozen W.heap.size R b o=false):=by
 rw[heap_more_in W R n b hs] at h;have hlt:=(Array.getElem?_eq_some_iff.1 h).1;refine⟨⟨hs,by omega⟩,fun o=>?_,fun o=>?_⟩
 ·unfold inCell;rw[h]
 ·unfold inFrozen;rw[h];simp
theorem two_filled(s:Nat)(R:Array Obj)(b c:Nat)(x y p q:Value)(hb:PreIn b s R)(hc:PreIn c s R)(hne:b≠c)(b0:(inCell s R b 0).isSome=true)(b1:(inCell s R b 1).isSome=true)(c0:(inCell s R c 0).isSome=true)(c1:(inCell s R c 1).isSome=true):
  ∃R',inSet s (inSet s (inSet s (inSet s R b 0 x) b 1 y) c 0 p) c 1 q=R'∧PreIn b s R'∧PreIn c s R'∧inCell s R' b 0=some x∧inCell s R' b 1=some y∧inCell s R' c 0=some p∧inCell s R' c 1=some q:=by
 have hne':c≠b:=fun e=>hne e.symm
 refine⟨_,rfl,by simpa [PreIn.set_iff] using hb,by simpa [PreIn.set_iff] using hc,?_,?_,?_,?_⟩
 ·rw[inCell_inSet_blk _ _ _ _ _ _ _ hne' (by simpa [PreIn.set_iff] using hc) (by simpa [PreIn.set_iff] using hb),inCell_inSet_blk _ _ _ _ _ _ _ hne' (by simpa [PreIn.set_iff] using hc) (by simpa [PreIn.set_iff] using hb),inCell_inSet_off _ _ _ _ _ _ (by decide),inCell_inSet_same _ _ _ _ _ b0]
 ·rw[inCell_inSet_blk _ _ _ _ _ _ _ hne' (by simpa [PreIn.set_iff] using hc) (by simpa [PreIn.set_iff] using hb),inCell_inSet_blk _ _ _ _ _ _ _ hne' (by simpa [PreIn.set_iff] using hc) (by simpa [PreIn.set_iff] using hb),inCell_inSet_same _ _ _ _ _ (by rw[inCell_inSet_off _ _ _ _ _ _ (by decide)];exact b1)]
 ·rw[inCell_inSet_off _ _ _ _ _ _ (by decide),inCell_inSet_same _ _ _ _ _ (by rw[inCell_inSet_blk _ _ _ _ _ _ _ hne (by simpa [PreIn.set_iff] using hb) (by simpa [PreIn.set_iff] using hc),inCell_inSet_blk _ _ _ _ _ _ _ hne (by simpa [PreIn.set_iff] using hb) (by simpa [PreIn.set_iff] using hc)];exact c0)]
 ·rw[inCell_inSet_same _ _ _ _ _ (by rw[inCell_inSet_off _ _ _ _ _ _ (by decide),inCell_inSet_blk _ _ _ _ _ _ _ hne (by simpa [PreIn.set_iff] using hb) (by simpa [PreIn.set_iff] using hc),inCell_inSet_blk _ _ _ _ _ _ _ hne (by simpa [PreIn.set_iff] using hb) (by simpa [PreIn.set_iff] using hc)];exact c1)]
theorem heap_new_at(w:World)(o:Obj)(n:Nat)(h:n=w.heap.size): (w.alloc o).heap[n]? = some o:=by
 subst h;show(w.heap.push o)[w.heap.size]? = some o;simp
end Go
namespace Go
inductive Fact where
 | val (c:Value)
 | of (p:Value→World→Prop) (st:∀v w w',p v w→Grew w w'→p v w')
 | new (s:Nat) (c:Array Value) (t:TypeId)
def IsNew(s:Nat)(c:Array Value)(t:TypeId)(v:Value)(w:World): Prop:=∃b,v = .pointer (some ⟨b,0,none⟩)∧w.heap[b]? = some (.cells c t)∧s≤b
def Fact.holds:Fact→Value→World→Prop
 | .val c,v,_=>v=c
 | .of p _,v,w=>p v w
 | .new s c t,v,w=>IsNew s c t v w
def Fact.post:Fact→World→Value→World→Prop
 | .val c,_,v,_=>v=c
 | .of p _,_,v,w=>p v w
 | .new s c t,w0,v,w=>∃b,v = .pointer (some ⟨b,0,none⟩)∧w.heap[b]? = some (.cells c t)∧s≤b∧w0.heap.size≤b
theorem Fact.post_holds{f:Fact}{w0 w:World}{v:Value}(h:f.post w0 v w): f.holds v w:=by
 cases f with
 | val c=>exact h
 | of p st=>exact h
 | new s c t=>obtain⟨b,h1,h2,h3,_⟩:=h;exact⟨b,h1,h2,h3⟩
theorem Fact.grew{f:Fact}{v:Value}{w w':World}(h:f.holds v w)(g:Grew w w'): f.holds v w':=by
 cases f with
 | val c=>exact h
 | of p st=>exact st v w w' h g
 |new s c t =>
  obtain⟨b,h1,h2,h3⟩:=h;refine⟨b,h1,?_,h3⟩;rw[g.below.block b (Array.getElem?_eq_some_iff.1 h2).1];exact h2
def Fact.at:Fact→Value→Value
 | .val c,_=>c
 | .of _ _,v=>v
 | .new _ _ _,v=>v
theorem Fact.at_eq{f:Fact}{v:Value}{w:World}(h:f.holds v w): f.at v=v:=by
 cases f with
 | val c=>exact h.symm
 | of p st=>rfl
 | new s c t=>rfl
def Fact.more:Fact→Value→World→Prop
 | .val _,_,_=>True
 | .of p _,v,w=>p v w
 | .new s c t,v,w=>IsNew s c t v w
theorem Fact.more_of{f:Fact}{v:Value}{w:World}(h:f.holds v w): f.more v w:=by
 cases f with
 | val c=>trivial
 | of p st=>exact h
 | new s c t=>exact h
def Fact.isNew:Fact→Bool
 | .new _ _ _=>true
 | _=>false
def Oper.deps(o:Oper): List Nat:=(o.after.toList.filter (Region.binds .any)).map (·.on)
def Region.dstOf(ops:Array Oper)(i:Nat): Option Tmp:=(ops[i]?).bind (·.dst)
def putFacts(ops:Array Oper)(F:List Fact)(u:Nat→Value): List Nat→Act→Act
 | [],a=>a
 | i::l,a=>putFacts ops F u l (match F[i]? with|some f=>a.put (Region.dstOf ops i) (f.at (u i))|none=>a)
def moreFacts(F:List Fact)(u:Nat→Value)(w:World): List Nat→Prop
 | []=>True
 | i::l=>(match F[i]? with|some f=>f.more (u i) w|none=>True)∧moreFacts F u w l
def ObPost(Q:Exit→Act→World→Prop)(w:World)(ds:List Deferred)(d:Option Tmp)(f:Fact): Exit→Act→World→Prop
 | .normal,a',w'=>Grew w w'∧a'.defers=ds∧∃t v,d=some t∧a'.tmps.toList[t]? = some v∧f.post w v w'
 | .outgrown,_,_=>LetsOut Q
 | _,_,_=>False
def Ob(P:Program)(ops:Array Oper)(Q:Exit→Act→World→Prop)(w0:World)(a0:Act)(F:List Fact)(o:Oper)(f:Fact): Prop :=
 ∀(w:World) (u:Nat→Value),Grew w0 w→moreFacts F u w o.deps→wpList P ops (ObPost Q w a0.defers o.dst f) [o] (putFacts ops F u o.deps a0) w
def Obs(P:Program)(ops:Array Oper)(Q:Exit→Act→World→Prop)(w0:World)(a0:Act)(F:List Fact): List Oper→List Fact→Prop
 | o::os,f::fs=>Ob P ops Q w0 a0 F o f∧Obs P ops Q w0 a0 F os fs
 | _,_=>True
def apartFacts(F:List Fact)(u:Nat→Value): List Nat→Prop
 | []=>True
 | i::l=>((F[i]?.map Fact.isNew)=some true→∀j∈l,(F[j]?.map Fact.isNew)=some true→u i≠u j)∧apartFacts F u l
def Region.factsOk(ops:Array Oper)(m:Nat): Bool :=
 decide (m≤ops.size)&&Region.noSelect ops &&
 ((List.range m).all fun i=>match ops[i]? with
  | none=>false
  | some o=>o.dst.isSome&&(o.deps.all fun j=>decide (j<i))&&((List.range m).all fun j=>match Region.dstOf ops j with
    | none=>false
    | some d=>(j==i||o.dst != some d)&&(o.deps.contains j || !(o.looksAt ops).contains d))) &&
 ((List.range ops.size).all fun k=>decide (k<m)||match ops[k]? with
  | none=>false
  | some o=>(o.deps.all fun j=>decide (j<k))&&(List.range k).all fun j=>o.deps.contains j||(List.range k).any fun i=>decide (j<i)&&match ops[i]? with
    | none=>false
    | some oi=>oi.deps.contains j)
section
variable {P:Program} {ops:Array Oper} {Q:Exit→Act→World→Prop}
theorem putFacts_defers(F:List Fact)(u:Nat→Value): ∀(l:List Nat) (a:Act),(putFacts ops F u l a).defers=a.defers:=by
 intro l
 induction l with
 | nil=>intro a;rfl
 |cons i l ih =>
  intro a;rw[putFacts,ih]
  cases F[i]? with
  | none=>rfl
  | some f=>cases Region.dstOf ops i<;>rfl
theorem put_size(a:Act)(d:Option Tmp)(v:Value): (a.put d v).tmps.size=a.tmps.size:=by cases d<;>simp[Act.put]
theorem put_get_ne(a:Act)(d:Option Tmp)(v:Value)(t:Nat)(h:d≠some t): (a.put d v).tmps[t]? = a.tmps[t]? :=by
 cases d with
 | none=>rfl
 | some x=>simp only[Act.put];rw[Array.getElem?_setIfInBounds_ne];intro e;exact h (by rw[e])
theorem put_get_eq(a:Act)(t:Nat)(v:Value)(h:t<a.tmps.size): (a.put (some t) v).tmps[t]? = some v:=by
 simp[Act.put,Array.getElem?_setIfInBounds,h]
theorem putFacts_size(F:List Fact)(u:Nat→Value): ∀(l:List Nat) (a:Act),(putFacts ops F u l a).tmps.size=a.tmps.size:=by
 intro l
 induction l with
 | nil=>intro a;rfl
 |cons i l ih =>
  intro a;rw[putFacts,ih]
  cases F[i]? with
  | none=>rfl
  | some f=>exact put_size ..
theorem putFacts_other(F:List Fact)(u:Nat→Value)(t:Nat): ∀(l:List Nat) (a:Act),(∀i∈l,Region.dstOf ops i≠some t)→(putFacts ops F u l a).tmps[t]? = a.tmps[t]? :=by
 intro l
 induction l with
 | nil=>intro a _;rfl
 |cons i l ih =>
  intro a h;rw[putFacts,ih _ fun j hj=>h j (List.mem_cons_of_mem _ hj)]
  cases F[i]? with
  | none=>rfl
  | some f=>exact put_get_ne _ _ _ _ (h i List.mem_cons_self)
theorem putFacts_one(F:List Fact)(u:Nat→Value)(t j:Nat)(f:Fact)(hf:F[j]? = some f)(hd:Region.dstOf ops j=some t): ∀(l:List Nat) (a:Act),j∈l→(∀i∈l,i≠j→Region.dstOf ops i≠some t)→t<a.tmps.size →
  (putFacts ops F u l a).tmps[t]? = some (f.at (u j)):=by
 intro l
 induction l with
 | nil=>intro a h;cases h
 |cons i l ih =>
  intro a hj h ht;rw[putFacts]
  have hsz:(match F[i]? with|some f=>a.put (Region.dstOf ops i) (f.at (u i))|none=>a).tmps.size=a.tmps.size:=by
   cases F[i]? with
   | none=>rfl
   | some f=>exact put_size ..
  by_cases hl:j∈l
  ·exact ih _ hl (fun k hk=>h k (List.mem_cons_of_mem _ hk)) (by rw[hsz];exact ht)
  ·have hij:i=j:=((List.mem_cons.1 hj).resolve_right hl).symm;subst hij;rw[putFacts_other F u t l _ fun k hk=>h k (List.mem_cons_of_mem _ hk) fun e=>hl (e▸hk),hf,hd];exact put_get_eq _ _ _ ht
structure Stand (ops:Array Oper) (m:Nat) (F:List Fact) (w0:World) (a0:Act) (listed:Array Bool) (a:Act) (w:World):Prop where
 grew:Grew w0 w
 defers:a.defers=a0.defers
 size:a.tmps.size=a0.tmps.size
 other:∀t,(∀i,i<m→Region.dstOf ops i≠some t)→a.tmps[t]? = a0.tmps[t]?
 facts:∀(i:Nat) (f:Fact) (t:Nat),listed.getD i false=true→F[i]? = some f→Region.dstOf ops i=some t→∃v,a.tmps[t]? = some v∧f.holds v w
 apart:∀(i j t t':Nat),i≠j→listed.getD i false=true→listed.getD j false=true→F[i]?.map Fact.isNew=some true→F[j]?.map Fact.isNew=some true→Region.dstOf ops i=some t→Region.dstOf ops j=some t'→a.tmps[t]? ≠ a.tmps[t']?
 closed:∀(i:Nat) (o:Oper) (j:Nat),ops[i]? = some o→listed.getD i false=true→j∈o.deps→listed.getD j false=true
theorem Obs.at{w0:World}{a0:Act}{F:List Fact}: ∀(os:List Oper) (fs:List Fact),Obs P ops Q w0 a0 F os fs→∀(i:Nat) (o:Oper) (f:Fact),os[i]? = some o→fs[i]? = some f→Ob P ops Q w0 a0 F o f
 | [],_,_,i,o,f,ho,_=>by simp at ho
 | _::_,[],_,i,o,f,_,hf=>by simp at hf
 | o'::os,f'::fs,h,0,o,f,ho,hf=>by simp at ho hf;subst ho hf;exact h.1
 | o'::os,f'::fs,h,i+1,o,f,ho,hf=>Obs.at os fs h.2 i o f (by simpa using ho) (by simpa using hf)
theorem wpOne_to_wpOp{i:Nat}{o:Oper}{a b:Act}{w:World}{f:Fact}(hi:ops[i]? = some o)(hd:b.defers=a.defers)
  (he:execOp b.eval o=execOp a.eval o) (hw:Region.wanted o (yielded ops b.tmps)=Region.wanted o (yielded ops a.tmps))
  (h:wpList P ops (ObPost Q w b.defers o.dst f) [o] b w):wpOp P ops Q i (fun a' w'=>Grew w w'∧∃v,a'=a.put o.dst v∧(∀t,o.dst=some t→f.post w v w')) a w:=by
 unfold wpOp;simp only[hi];unfold wpList at h;rw[hw] at h
 have conv:∀(v:Value) (w':World),wpList P ops (ObPost Q w b.defers o.dst f) [] (b.put o.dst v) w'→Grew w w'∧∃v',a.put o.dst v=a.put o.dst v'∧(∀t,o.dst=some t→f.post w v' w'):=by
  rintro v w' ⟨hg,_,t,v',ht,hv,hf⟩;refine⟨hg,v,rfl,fun _ _=>?_⟩;rw[ht,Array.getElem?_toList] at hv;simp only[Act.put,Array.getElem?_setIfInBounds,if_true] at hv;split at hv
  ·cases hv;exact hf
  ·cases hv
 split
 ·rename_i hwt
  rw[if_pos hwt] at h;rcases h with h|⟨hasks,a1,w1,hlets⟩
  ·refine .inl ?_;unfold Oper.wp at *;rw[he] at h;generalize (execOp a.eval o).run P w=r at *
   cases r with
   |ok n w' =>
    cases n<;>simp only[Oper.upon] at h ⊢
    case value v=>exact conv v w' h
    case skip=>exact conv _ w' h
    case defer d =>
     obtain⟨_,hdf,_⟩:=h;exfalso;have h1:(({ b with defers:=d::b.defers }:Act).put o.dst undef).defers=d::b.defers:=by cases o.dst<;>rfl
     rw[h1] at hdf;have:=congrArg List.length hdf;simp at this
    case enter g args =>
     refine Calls.mono h fun e w'' he'=>?_
     cases e with
     | returned v=>exact conv v w'' he'
     | panicked c=>exact he'.elim
     | outgrown=>obtain⟨_,_,h2⟩:=he';exact h2
    case row row args=>exact Rows.mono h fun v w'' hv=>conv v w'' hv
   |halt x w' =>
    cases x<;>simp only[Oper.upon] at h ⊢
    case panic v=>exact h.elim
  ·exact .inr ⟨by unfold Oper.asks at *;rw[he] at hasks;exact hasks,hlets⟩
 ·rename_i hwt
  rw[if_neg hwt] at h;exact conv _ w h
theorem dstOf_some{i:Nat}{o:Oper}(h:ops[i]? = some o): Region.dstOf ops i=o.dst:=by simp[Region.dstOf,h]
theorem getD_tf{l:Array Bool}{i:Nat}(h:i<l.size): l.getD i true=l.getD i false:=by simp[h]
structure Okay (ops:Array Oper) (m:Nat):Prop where
 le:m≤ops.size
 sel:∀(j:Nat) (o:Oper) (cs:Array SelectCase) (b:Bool),ops[j]? = some o→o.op ≠ .select cs b
 dst:∀i,i<m→∃(o:Oper) (t:Nat),ops[i]? = some o∧o.dst=some t
 depsLt:∀(i:Nat) (o:Oper),ops[i]? = some o→∀j∈o.deps,j<i
 one:∀i j t,i<m→j<m→Region.dstOf ops i=some t→Region.dstOf ops j=some t→i=j
 looks:∀(i j:Nat) (o:Oper) (t:Nat),i<m→j<m→ops[i]? = some o→Region.dstOf ops j=some t→t∈o.looksAt ops→j∈o.deps
 tail:∀(k:Nat) (o:Oper) (j:Nat),m≤k→ops[k]? = some o→j<k→j∈o.deps∨∃i oi,j<i∧i<k∧ops[i]? = some oi∧j∈oi.deps
theorem okay_of{m:Nat}(h:Region.factsOk ops m=true): Okay ops m:=by
 unfold Region.factsOk at h;simp only[Bool.and_eq_true,decide_eq_true_eq,List.all_eq_true,List.mem_range,Bool.or_eq_true] at h;obtain⟨⟨⟨h1,h2⟩,h3⟩,h4⟩:=h
 have h3':∀i,i<m→∃o t,ops[i]? = some o∧o.dst=some t∧(∀j∈o.deps,j<i)∧∀j,j<m→∃d,Region.dstOf ops j=some d∧(j=i∨o.dst≠some d)∧(j∈o.deps∨d∉o.looksAt ops):=by
  intro i hi;have:=h3 i hi
  cases ho:ops[i]? with
  | none=>rw[ho] at this;simp at this
  |some o =>
   rw[ho] at this;simp only[Bool.and_eq_true,List.all_eq_true,decide_eq_true_eq,List.mem_range] at this;obtain⟨⟨hs,hl⟩,hj⟩:=this;obtain⟨t,ht⟩:=Option.isSome_iff_exists.1 hs;refine⟨o,t,rfl,ht,hl,fun j hjm=>?_⟩;have:=hj j hjm
   cases hd:Region.dstOf ops j with
   | none=>rw[hd] at this;simp at this
   |some d =>
    rw[hd] at this;simp only[Bool.and_eq_true,Bool.or_eq_true,beq_iff_eq,bne_iff_ne,List.contains_iff_mem,Bool.not_eq_true',List.contains_eq_mem,decide_eq_true_eq,decide_eq_false_iff_not] at this;exact⟨d,rfl,this.1,this.2⟩
 have h4':∀k,k<ops.size→¬k<m→∃o,ops[k]? = some o∧(∀j∈o.deps,j<k)∧∀j,j<k→j∈o.deps∨∃i oi,j<i∧i<k∧ops[i]? = some oi∧j∈oi.deps:=by
  intro k hk hm;have:=(h4 k hk).resolve_left hm
  cases ho:ops[k]? with
  | none=>rw[ho] at this;simp at this
  |some o =>
   rw[ho] at this;simp only[Bool.and_eq_true,Bool.or_eq_true,List.all_eq_true,List.any_eq_true,decide_eq_true_eq,List.mem_range,List.contains_eq_mem] at this;refine⟨o,rfl,this.1,fun j hj=>?_⟩;rcases this.2 j hj with h|⟨i,hi,hji,h⟩
   ·exact .inl h
   ·cases hoi:ops[i]? with
    | none=>rw[hoi] at h;simp at h
    |some oi =>
     rw[hoi] at h;exact .inr ⟨i,oi,hji,hi,hoi,by simpa using h⟩
 refine⟨h1,Region.noSelect_spec h2,fun i hi=>?_,fun i o ho j hj=>?_,fun i j t hi hj h5 h6=>?_,fun i j o t hi hj ho hd ht=>?_,fun k o j hk ho hj=>?_⟩
 ·obtain⟨o,t,ho,ht,_⟩:=h3' i hi;exact⟨o,t,ho,ht⟩
 ·by_cases him:i<m
  ·obtain⟨o',t,ho',_,hl,_⟩:=h3' i him;rw[ho] at ho';cases ho';exact hl j hj
  ·obtain⟨o',ho',hl,_⟩:=h4' i (Array.getElem?_eq_some_iff.1 ho).1 him;rw[ho] at ho';cases ho';exact hl j hj
 ·obtain⟨o,t',ho,ht,_,hall⟩:=h3' i hi;obtain⟨d,hd,hne,_⟩:=hall j hj;rw[h6] at hd;cases hd;rw[Region.dstOf,ho] at h5;exact(hne.resolve_right fun hn=>hn h5).symm
 ·obtain⟨o',t',ho',_,_,hall⟩:=h3' i hi;rw[ho] at ho';cases ho';obtain⟨d,hd',_,hl⟩:=hall j hj;rw[hd] at hd';cases hd';exact hl.resolve_right fun hn=>hn ht
 ·obtain⟨o',ho',_,hl⟩:=h4' k (Array.getElem?_eq_some_iff.1 ho).1 (by omega);rw[ho] at ho';cases ho';exact hl j hj
theorem wanted_congr{o:Oper}{a b:Act}(h:∀t∈o.looksAt ops,b.tmps[t]? = a.tmps[t]?): Region.wanted o (yielded ops b.tmps)=Region.wanted o (yielded ops a.tmps):=by
 unfold Region.wanted
 cases hg:o.guard with
 | none=>rfl
 |some gw =>
  obtain⟨g,want⟩:=gw
  have hy:yielded ops b.tmps g=yielded ops a.tmps g:=by
   unfold yielded
   cases ht:(ops[g]?).bind (·.dst) with
   | none=>rfl
   |some t =>
    have:=h t (by simp[Oper.looksAt,hg,ht]);simp only[Option.bind_some,this]
  simp only[hy]
theorem exec_congr{o:Oper}{a b:Act}(hs:∀cs b,o.op ≠ .select cs b)(h:∀t∈o.looksAt ops,b.tmps[t]? = a.tmps[t]?): execOp b.eval o=execOp a.eval o :=
 execOp_congr o hs fun x hx=>by
  cases x with
  |tmp t =>
   have:=h t (List.mem_append_left _ (List.mem_filterMap.2 ⟨.tmp t,by simpa using hx,rfl⟩))
   simp[Act.eval,this]
  | _=>rfl
theorem wpAny_tail{m:Nat}(hk:Okay ops m): ∀(n k fuel:Nat) (listed:Array Bool) (a:Act) (w:World),k+n=ops.size→m≤k→n≤fuel→listed.size=ops.size →
  (∀i,i<k→listed.getD i false=true)→(∀i,k≤i→i<ops.size→listed.getD i true=false)→wpList P ops Q (ops.toList.drop k) a w→wpAny P .any ops Q fuel listed a w:=by
 intro n
 induction n with
 |zero =>
  intro k fuel listed a w h1 h2 h3 h4 h5 h6 h
  have hr:Region.ready .any ops listed=[]:=by
   apply List.eq_nil_iff_forall_not_mem.2;intro i hi;obtain⟨h7,o,ho,_⟩:=mem_ready.1 hi;have hlt:=(Array.getElem?_eq_some_iff.1 ho).1;have h8:=h5 i (by omega);rw[getD_tf (by omega),h8] at h7;cases h7
  refine wpAny_done hr ?_ fuel;rw[List.drop_eq_nil_of_le (by simp;omega)] at h
  exact h
 |succ n ih =>
  intro k fuel listed a w h1 h2 h3 h4 h5 h6 h;have hkn:k<ops.size:=by omega
  have ho:ops[k]? = some ops[k]:=Array.getElem?_eq_getElem hkn
  have hready:k∈Region.ready .any ops listed:=by
   refine mem_ready.2 ⟨h6 k (Nat.le_refl _) hkn,_,ho,fun e he hb=>h5 _ ?_⟩;exact hk.depsLt k _ ho e.on (List.mem_map.2 ⟨e,List.mem_filter.2 ⟨by simpa using he,hb⟩,rfl⟩)
  obtain⟨f,rfl⟩:∃f,fuel=f+1:=⟨fuel-1,by omega⟩;refine⟨fun h0=>(by rw[h0] at hready;cases hready),fun i hi=>?_⟩;obtain⟨h7,o,hoi,hall⟩:=mem_ready.1 hi;have hlt:=(Array.getElem?_eq_some_iff.1 hoi).1
  have hik:i=k:=by
   rcases Nat.lt_trichotomy i k with hc|hc|hc
   ·have h8:=h5 i hc;rw[getD_tf (by omega),h8] at h7;cases h7
   ·exact hc
   ·have hd:i-1∈o.deps:=(hk.tail i o (i-1) (by omega) hoi (by omega)).resolve_right (by rintro⟨_,_,h8,h9,_⟩;omega);obtain⟨e,he,hek⟩:=List.mem_map.1 hd;obtain⟨he1,he2⟩:=List.mem_filter.1 he;have h8:=hall e (by simpa using he1) he2;rw[hek] at h8;have h9:=h6 (i-1) (by omega) (by omega);rw[getD_tf (by omega),h8] at h9;cases h9
  subst hik
  have hcons:ops.toList.drop i=ops[i]::ops.toList.drop (i+1):=by
   rw[List.drop_eq_getElem_cons (by simpa using hkn)];simp
  rw[hcons] at h
  have hstep:∀a' w',wpList P ops Q (ops.toList.drop (i+1)) a' w'→wpAny P .any ops Q f (listed.setIfInBounds i true) a' w':=by
   intro a' w' h';refine ih (i+1) f _ a' w' (by omega) (by omega) (by omega) (by simpa using h4) ?_ ?_ h'
   ·intro j hj;by_cases hji:i=j
    ·subst hji;simp[h4,hkn]
    ·rw[getD_set_ne _ hji];exact h5 j (by omega)
   ·intro j hj hj';rw[getD_set_ne _ (by omega)];exact h6 j (by omega) hj'
  unfold wpOp;simp only[ho];unfold wpList at h;split
  ·rename_i hw
   rw[if_pos hw] at h;exact h.imp (Oper.wp_mono hstep) id
  ·rename_i hw
   rw[if_neg hw] at h;exact hstep _ _ h
theorem filter_set_lt{l:Array Bool}{i n:Nat}(hi:i<n)(hn:n≤l.size)(h:l.getD i true=false):
  ((List.range n).filter fun j=> !(l.setIfInBounds i true).getD j true).length<((List.range n).filter fun j=> !l.getD j true).length:=by
 induction n with
 | zero=>omega
 |succ n ih =>
  rw[List.range_succ,List.filter_append,List.filter_append,List.length_append,List.length_append];by_cases hin:i=n
  ·subst hin
   have h1:((List.range i).filter fun j=> !(l.setIfInBounds i true).getD j true)=((List.range i).filter fun j=> !l.getD j true):=by
    apply List.filter_congr;intro j hj;rw[getD_set_ne _ (by have:=List.mem_range.1 hj;omega)]
   rw[h1];have h2:(l.setIfInBounds i true).getD i true=true:=by simp
   simp only[List.filter_cons,List.filter_nil,h2,h];simp
  ·have h2:(l.setIfInBounds i true).getD n true=l.getD n true:=getD_set_ne _ hin;have:=ih (by omega) (by omega);simp only[List.filter_cons,List.filter_nil,h2];omega
theorem moreFacts_of{F:List Fact}{u:Nat→Value}{w:World}: ∀(l:List Nat),(∀i∈l,∀f,F[i]? = some f→f.more (u i) w)→moreFacts F u w l
 | [],_=>trivial
 |i::l,h=>⟨by cases hf:F[i]? with
  | none=>trivial
  | some f=>exact h i List.mem_cons_self f hf,moreFacts_of l fun j hj=>h j (List.mem_cons_of_mem _ hj)⟩
theorem apartFacts_of{F:List Fact}{u:Nat→Value}: ∀(l:List Nat),l.Nodup→(∀i∈l,∀j∈l,i≠j→F[i]?.map Fact.isNew=some true→F[j]?.map Fact.isNew=some true→u i≠u j)→apartFacts F u l
 | [],_,_=>trivial
 |i::l,hn,h=>by
  obtain⟨h1,h2⟩:=List.nodup_cons.1 hn;exact⟨fun hi j hj hfj=>h i List.mem_cons_self j (List.mem_cons_of_mem _ hj) (fun e=>h1 (e▸hj)) hi hfj,apartFacts_of l h2 fun a ha b hb=>h a (List.mem_cons_of_mem _ ha) b (List.mem_cons_of_mem _ hb)⟩
theorem wpAny_facts{m:Nat}{w0:World}{a0:Act}{F:List Fact}(hk:Okay ops m)(hF:F.length=m)
  (hob:∀(i:Nat) (o:Oper) (f:Fact),i<m→ops[i]? = some o→F[i]? = some f→Ob P ops Q w0 a0 F o f)
  (hsz:∀i t,i<m→Region.dstOf ops i=some t→t<a0.tmps.size)
  (hend:∀(u:Nat→Value) (w:World),Grew w0 w→moreFacts F u w (List.range m)∧apartFacts F u (List.range m)→wpList P ops Q (ops.toList.drop m) (putFacts ops F u (List.range m) a0) w) :
  ∀(fuel:Nat) (listed:Array Bool) (a:Act) (w:World),Stand ops m F w0 a0 listed a w→listed.size=ops.size→(∀i,m≤i→i<ops.size→listed.getD i true=false) →
   ((List.range ops.size).filter (fun i=> !listed.getD i true)).length≤fuel→wpAny P .any ops Q fuel listed a w:=by
 intro fuel
 have hlast:∀(fuel:Nat) (listed:Array Bool) (a:Act) (w:World),Stand ops m F w0 a0 listed a w→listed.size=ops.size→(∀i,m≤i→i<ops.size→listed.getD i true=false) →
   (∀i,i<m→listed.getD i false=true)→((List.range ops.size).filter (fun i=> !listed.getD i true)).length≤fuel→wpAny P .any ops Q fuel listed a w:=by
  intro fuel listed a w hs h1 h2 h3 h4
  have hcount:((List.range ops.size).filter (fun i=> !listed.getD i true)).length=ops.size-m:=by
   have hr:List.range ops.size=List.range m++(List.range (ops.size-m)).map (m + ·):=by
    rw[←List.range_add];congr 1;have:=hk.le;omega
   rw[hr,List.filter_append,List.length_append]
   have e1:(List.range m).filter (fun i=> !listed.getD i true)=[]:=by
    apply List.filter_eq_nil_iff.2;intro j hj;have hjm:=List.mem_range.1 hj;rw[getD_tf (by have:=hk.le;omega),h3 j hjm];simp
   have e2:((List.range (ops.size-m)).map (m + ·)).filter (fun i=> !listed.getD i true)=(List.range (ops.size-m)).map (m + ·):=by
    apply List.filter_eq_self.2;intro j hj;obtain⟨k,hk',rfl⟩:=List.mem_map.1 hj;have:=List.mem_range.1 hk';rw[h2 (m+k) (by omega) (by omega)];rfl
   rw[e1,e2];simp
  refine wpAny_tail hk (ops.size-m) m fuel listed a w (by have:=hk.le;omega) (Nat.le_refl _) (by omega) h1 h3 h2 ?_
  have ha:a=putFacts ops F (fun i=>match Region.dstOf ops i with|some t=>a.tmps.getD t undef|none=>undef) (List.range m) a0:=by
   generalize hu:(fun i=>match Region.dstOf ops i with|some t=>a.tmps.getD t undef|none=>undef)=u;have hd:=hs.defers
   have ht:a.tmps=(putFacts ops F u (List.range m) a0).tmps:=by
    apply Array.ext_getElem?;intro t;by_cases hex:∃i,i<m∧Region.dstOf ops i=some t
    ·obtain⟨i,him,hit⟩:=hex;have hFi:i<F.length:=by omega
     obtain⟨v,hv,hfv⟩:=hs.facts i F[i] t (h3 i him) (List.getElem?_eq_getElem hFi) hit;have huv:u i=v:=by rw[←hu];simp[hit,hv]
     rw[putFacts_one F u t i F[i] (List.getElem?_eq_getElem hFi) hit (List.range m) a0 (List.mem_range.2 him) ?_ (hsz i t him hit),hv,huv,Fact.at_eq hfv];intro j hj hji hjt;exact hji (hk.one j i t (List.mem_range.1 hj) him hjt hit)
    ·rw[hs.other t fun i him hit=>hex ⟨i,him,hit⟩,putFacts_other F u t (List.range m) a0 fun i hi hit=>hex ⟨i,List.mem_range.1 hi,hit⟩]
   have hd':a.defers=(putFacts ops F u (List.range m) a0).defers:=by rw[putFacts_defers,hd]
   cases a;cases hp:putFacts ops F u (List.range m) a0;rw[hp] at ht hd';simp only at ht hd';rw[ht,hd']
  rw[ha];refine hend _ w hs.grew ⟨moreFacts_of _ ?_,apartFacts_of _ List.nodup_range ?_⟩;rotate_left
  ·intro i hi j hj hij hfi hfj;have him:=List.mem_range.1 hi;have hjm:=List.mem_range.1 hj;obtain⟨oi,ti,hoi,hti⟩:=hk.dst i him;obtain⟨oj,tj,hoj,htj⟩:=hk.dst j hjm;have hit:Region.dstOf ops i=some ti:=by rw[dstOf_some hoi,hti]
   have hjt:Region.dstOf ops j=some tj:=by rw[dstOf_some hoj,htj]
   have hne:=hs.apart i j ti tj hij (h3 i him) (h3 j hjm) hfi hfj hit hjt;obtain⟨vi,hvi,_⟩:=hs.facts i F[i] ti (h3 i him) (List.getElem?_eq_getElem (by omega)) hit;obtain⟨vj,hvj,_⟩:=hs.facts j F[j] tj (h3 j hjm) (List.getElem?_eq_getElem (by omega)) hjt;intro he;simp only[hit,hjt] at he;have e1:a.tmps.getD ti undef=vi:=by simp[hvi]
   have e2:a.tmps.getD tj undef=vj:=by simp[hvj]
   rw[e1,e2] at he;exact hne (by rw[hvi,hvj,he])
  intro i hi f hf;have him:=List.mem_range.1 hi;obtain⟨o,t,ho,ht⟩:=hk.dst i him;have hit:Region.dstOf ops i=some t:=by rw[dstOf_some ho,ht]
  obtain⟨v,hv,hfv⟩:=hs.facts i f t (h3 i him) hf hit;have:(match Region.dstOf ops i with|some t=>a.tmps.getD t undef|none=>undef)=v:=by simp[hit,hv]
  rw[this];exact Fact.more_of hfv
 induction fuel with
 |zero =>
  intro listed a w hs h1 h2 h4;refine hlast 0 listed a w hs h1 h2 (fun i hi=>?_) h4;have hnil:=List.eq_nil_of_length_eq_zero (Nat.le_zero.1 h4);have h5:=List.filter_eq_nil_iff.1 hnil i (List.mem_range.2 (by have:=hk.le;omega));have h6:listed.getD i true=true:=by simpa using h5
  rw[←getD_tf (by have:=hk.le;omega)];exact h6
 |succ fuel ih =>
  intro listed a w hs h1 h2 h4;by_cases hall:∀i,i<m→listed.getD i false=true
  ·exact hlast (fuel+1) listed a w hs h1 h2 hall h4
  ·-- the least that has not come up is ready
   have hmin:∀n,n≤m→(∀j,j<n→listed.getD j false=true)∨∃i,i<n∧listed.getD i false=false∧∀j,j<i→listed.getD j false=true:=by
    intro n
    induction n with
    | zero=>intro _;left;intro j hj;omega
    |succ n ihn =>
     intro hn;rcases ihn (by omega) with h|⟨i,h5,h6,h7⟩
     ·cases hb:listed.getD n false with
      | true => left;intro j hj;by_cases hjn:j=n
                ·rw[hjn];exact hb
                ·exact h j (by omega)
      | false=>exact .inr ⟨n,by omega,hb,h⟩
     ·exact .inr ⟨i,by omega,h6,h7⟩
   obtain⟨i0,hi0,hi0f,hi0l⟩:=(hmin m (Nat.le_refl _)).resolve_left hall;obtain⟨o0,t0,ho0,_⟩:=hk.dst i0 hi0;have hlem:=hk.le
   have hready0:i0∈Region.ready .any ops listed:=by
    refine mem_ready.2 ⟨by rw[getD_tf (by omega)];exact hi0f,o0,ho0,fun e he hb=>hi0l _ ?_⟩;exact hk.depsLt i0 o0 ho0 e.on (List.mem_map.2 ⟨e,List.mem_filter.2 ⟨by simpa using he,hb⟩,rfl⟩)
   refine⟨fun h0=>(by rw[h0] at hready0;cases hready0),fun i hi=>?_⟩;obtain⟨h7,o,ho,hdeps⟩:=mem_ready.1 hi;have hisz:=(Array.getElem?_eq_some_iff.1 ho).1
   have hdone:∀j∈o.deps,listed.getD j false=true:=by
    intro j hj;obtain⟨e,he,hej⟩:=List.mem_map.1 hj;obtain⟨he1,he2⟩:=List.mem_filter.1 he;rw[←hej];exact hdeps e (by simpa using he1) he2
   have him:i<m:=by
    apply Classical.byContradiction;intro hc
    have hdown:∀n j,i-j=n→j<i→listed.getD j false=true:=by
     intro n
     induction n using Nat.strongRecOn with
     |_ n ihn =>
      intro j hn hj;rcases hk.tail i o j (by omega) ho hj with h|⟨k,ok,hjk,hki,hok,h⟩
      ·exact hdone j h
      ·exact hs.closed k ok j hok (ihn (i-k) (by omega) k rfl hki) h
    have:=hdown _ i0 rfl (by omega);rw[hi0f] at this;cases this
   obtain⟨o',t,ho',ht⟩:=hk.dst i him;rw[ho] at ho';cases ho';have hFi:i<F.length:=by omega
   have hf:F[i]? = some F[i]:=List.getElem?_eq_getElem hFi;generalize hu:(fun j=>match Region.dstOf ops j with|some t=>a.tmps.getD t undef|none=>undef)=u
   have hval:∀j∈o.deps,∀(f:Fact) (t:Nat),F[j]? = some f→Region.dstOf ops j=some t→a.tmps[t]? = some (u j)∧f.holds (u j) w:=by
    intro j hj f t hf ht;obtain⟨v,hv,hfv⟩:=hs.facts j f t (hdone j hj) hf ht;have:u j=v:=by rw[←hu];simp[ht,hv]
    rw[this];exact⟨hv,hfv⟩
   have hagree:∀t∈o.looksAt ops,(putFacts ops F u o.deps a0).tmps[t]? = a.tmps[t]? :=by
    intro t' ht';by_cases hex:∃j,j<m∧Region.dstOf ops j=some t'
    ·obtain⟨j,hjm,hjt⟩:=hex;have hjd:=hk.looks i j o t' him hjm ho hjt ht';have hFj:j<F.length:=by omega
     obtain⟨hv,hfv⟩:=hval j hjd F[j] t' (List.getElem?_eq_getElem hFj) hjt;rw[putFacts_one F u t' j F[j] (List.getElem?_eq_getElem hFj) hjt o.deps a0 hjd ?_ (hsz j t' hjm hjt),hv,Fact.at_eq hfv];intro k hkd hkj hkt;have:=hk.depsLt i o ho k hkd;exact hkj (hk.one k j t' (by omega) hjm hkt hjt)
    ·rw[putFacts_other F u t' o.deps a0 fun k hkd hkt=>hex ⟨k,by have:=hk.depsLt i o ho k hkd;omega,hkt⟩,hs.other t' fun k hkm hkt=>hex ⟨k,hkm,hkt⟩]
   have h1':=hob i o F[i] him ho hf w u hs.grew (moreFacts_of _ fun j hj f hfj=>by
    have hjm:=hk.depsLt i o ho j hj;obtain⟨oj,tj,hoj,htj⟩:=hk.dst j (by omega)
    exact Fact.more_of (hval j hj f tj hfj (by rw[dstOf_some hoj,htj])).2)
   have hdef:(putFacts ops F u o.deps a0).defers=a.defers:=by rw[putFacts_defers,hs.defers]
   rw[←putFacts_defers (ops:=ops) F u o.deps a0] at h1';have h2':=wpOne_to_wpOp ho hdef (exec_congr (fun cs b=>hk.sel i o cs b ho) hagree) (wanted_congr hagree) h1';refine wpOp_mono ?_ h2';rintro a' w' ⟨hg,v,rfl,hfv⟩;refine ih _ _ _ ?_ (by simpa using h1) ?_ ?_
   ·refine⟨hs.grew.trans hg,?_,?_,?_,?_,?_,fun j oj k hoj hj hkd=>?_⟩
    rotate_right
    ·by_cases hij:i=j
     ·subst hij;rw[ho] at hoj;cases hoj;have hki:=hk.depsLt i o ho k hkd;rw[getD_set_ne _ (by omega)];exact hdone k hkd
     ·rw[getD_set_ne _ hij] at hj;have h9:=hs.closed j oj k hoj hj hkd;by_cases hik:i=k
      ·subst hik;rw[Array.getD_eq_getD_getElem?,Array.getElem?_setIfInBounds_self_of_lt (by omega)];rfl
      ·rw[getD_set_ne _ hik];exact h9
    ·rw[ht];exact hs.defers
    ·rw[put_size];exact hs.size
    ·intro t' ht';rw[put_get_ne _ _ _ _ fun e=>ht' i him (by rw[dstOf_some ho];exact e)];exact hs.other t' ht'
    ·intro j f t' hj hfj hjt;by_cases hij:i=j
     ·subst hij;rw[hf] at hfj;cases hfj;rw[dstOf_some ho,ht] at hjt;cases hjt;have hit:Region.dstOf ops i=some t:=by rw[dstOf_some ho,ht]
      refine⟨v,?_,Fact.post_holds (hfv t ht)⟩;rw[ht];exact put_get_eq _ _ _ (by rw[hs.size];exact hsz i t him hit)
     ·rw[getD_set_ne _ hij] at hj;obtain⟨v',hv',hfv'⟩:=hs.facts j f t' hj hfj hjt;refine⟨v',?_,Fact.grew hfv' hg⟩;rw[put_get_ne _ _ _ _ fun e=>?_]
      ·exact hv'
      ·have hjm:j<m:=by
        have:j<F.length:=(List.getElem?_eq_some_iff.1 hfj).1;omega
       exact hij (hk.one i j t' him hjm (by rw[dstOf_some ho];exact e) hjt)
    ·-- the new blocks
     have hit:Region.dstOf ops i=some t:=by rw[dstOf_some ho,ht]
     have hthis:(a.put o.dst v).tmps[t]? = some v:=by rw[ht];exact put_get_eq _ _ _ (by rw[hs.size];exact hsz i t him hit)
     have hother:∀j t',j≠i→j<m→Region.dstOf ops j=some t'→(a.put o.dst v).tmps[t']? = a.tmps[t']? :=fun j t' hji hjm hjt=>put_get_ne _ _ _ _ fun e=>hji (hk.one j i t' hjm him hjt (by rw[dstOf_some ho];exact e))
     have hold:∀j t',j≠i→listed.getD j false=true→F[j]?.map Fact.isNew=some true→Region.dstOf ops j=some t'→F[i]?.map Fact.isNew=some true→(a.put o.dst v).tmps[t']? ≠ some v:=by
      intro j t' hji hjl hfj hjt hfi
      have hjm:j<m:=by
       cases hfj':F[j]? with
       | none=>rw[hfj'] at hfj;simp at hfj
       | some x=>have:j<F.length:=(List.getElem?_eq_some_iff.1 hfj').1;omega
      obtain⟨vj,hvj,hpj⟩:=hs.facts j F[j] t' hjl (List.getElem?_eq_getElem (by omega)) hjt;have hp:=hfv t ht;rw[hother j t' hji hjm hjt,hvj];have hFj:F[j]? = some F[j]:=List.getElem?_eq_getElem (by omega);rw[hFj] at hfj;rw[hf] at hfi;generalize F[j]'(by omega)=fj at hpj hfj;generalize F[i]=fi at hp hfi;cases fj<;>simp[Fact.isNew] at hfj
      cases fi<;>simp[Fact.isNew] at hfi
      obtain⟨b,e1,e2,_⟩:=hpj;obtain⟨b',e3,_,_,e4⟩:=hp;have hb:b<w.heap.size:=(Array.getElem?_eq_some_iff.1 e2).1;rw[e1,e3];intro he;cases he;omega
     intro x y tx ty hxy hx hy hfx hfy htx hty
     have hxm:∀x,F[x]?.map Fact.isNew=some true→x<m:=by
      intro x hfx
      cases hfx':F[x]? with
      | none=>rw[hfx'] at hfx;simp at hfx
      | some z=>have:x<F.length:=(List.getElem?_eq_some_iff.1 hfx').1;omega
     by_cases hxi:x=i
     ·subst hxi;rw[hit] at htx;cases htx;rw[hthis];have hyx:y≠x:=fun e=>hxy e.symm
      rw[getD_set_ne _ (fun e=>hxy e)] at hy;exact fun e=>hold y ty hyx hy hfy hty hfx e.symm
     ·by_cases hyi:y=i
      ·subst hyi;rw[hit] at hty;cases hty;rw[hthis];rw[getD_set_ne _ (fun e=>hxy e.symm)] at hx;exact hold x tx hxi hx hfx htx hfy
      ·rw[getD_set_ne _ (fun e=>hxi e.symm)] at hx;rw[getD_set_ne _ (fun e=>hyi e.symm)] at hy;rw[hother x tx hxi (hxm x hfx) htx,hother y ty hyi (hxm y hfy) hty];exact hs.apart x y tx ty hxy hx hy hfx hfy htx hty
   ·intro j hj hj';rw[getD_set_ne _ (by omega)];exact h2 j hj hj'
   ·have:=filter_set_lt (l:=listed) (i:=i) (n:=ops.size) hisz (by omega) h7;omega
theorem obs_at{w0:World}{a0:Act}{F:List Fact}(m:Nat)(h:Obs P ops Q w0 a0 F (ops.toList.take m) F)(i:Nat)(o:Oper)(f:Fact)(hi:i<m)(ho:ops[i]? = some o)(hf:F[i]? = some f): Ob P ops Q w0 a0 F o f :=
 Obs.at _ _ h i o f (by rw[List.getElem?_take_of_lt hi];simpa using ho) hf
def Region.dstsIn(ops:Array Oper)(m n:Nat): Bool:=(List.range m).all fun i=>match Region.dstOf ops i with|some t=>decide (t<n)|none=>true
theorem wp_region_facts{id:Nat}{l:List Oper}{a0:Act}{w0:World}(m:Nat)(F:List Fact)(hm:P.follows .mixedOrders=true)(hok:Region.factsOk l.toArray m=true)(hF:F.length=m)
  (hsz:Region.dstsIn l.toArray m a0.tmps.size=true)
  (hob:Obs P l.toArray Q w0.drew a0 F (l.take m) F)
  (hend:∀(u:Nat→Value) (w:World),Grew w0.drew w→moreFacts F u w (List.range m)∧apartFacts F u (List.range m)→wpList P l.toArray Q (l.drop m) (putFacts l.toArray F u (List.range m) a0) w) :
  (Code.region id l.toArray true).wp P Q a0 w0:=by
 refine wp_region_any hm (wpAny_facts (okay_of hok) hF (fun i o f hi ho hf=>obs_at m (by simpa using hob) i o f hi ho hf) ?_ (by simpa using hend) _ _ _ _ ?_ (by simp) ?_ ?_)
 ·intro i t hi hit;have:=List.all_eq_true.1 hsz i (List.mem_range.2 hi);rw[hit] at this;simpa using this
 ·refine⟨Grew.refl _,rfl,rfl,fun _ _=>rfl,fun i f t hl _ _=>?_,fun i j t t' _ hl _ _ _ _ _=>?_,fun i _ _ _ hl _=>?_⟩
  all_goals
   rw[Array.getD_eq_getD_getElem?,Array.getElem?_replicate] at hl;split at hl<;>cases hl
 ·intro i _ hi;simp at hi;simp[hi]
 ·exact Nat.le_trans (List.length_filter_le _ _) (by simp)
def Seq(P:Program)(ops:Array Oper)(Q:Exit→Act→World→Prop)(w0:World)(a0:Act)(m:Nat): List Fact→List Oper→Prop
 | F,[]=>∀(u:Nat→Value) (w:World),Grew w0 w→moreFacts F u w (List.range m)∧apartFacts F u (List.range m)→wpList P ops Q (ops.toList.drop m) (putFacts ops F u (List.range m) a0) w
 | F,o::os=>∃f:Fact,Ob P ops Q w0 a0 F o f∧Seq P ops Q w0 a0 m (F++[f]) os
theorem Seq.val{w0:World}{a0:Act}{m:Nat}{F:List Fact}{o:Oper}{os:List Oper}(c:Value)(h1:Ob P ops Q w0 a0 F o (.val c))(h2:Seq P ops Q w0 a0 m (F++[.val c]) os): Seq P ops Q w0 a0 m F (o::os):=⟨.val c,h1,h2⟩
theorem Seq.of{w0:World}{a0:Act}{m:Nat}{F:List Fact}{o:Oper}{os:List Oper}(p:Value→World→Prop)(st:∀v w w',p v w→Grew w w'→p v w')(h1:Ob P ops Q w0 a0 F o (.of p st))(h2:Seq P ops Q w0 a0 m (F++[.of p st]) os): Seq P ops Q w0 a0 m F (o::os):=⟨.of p st,h1,h2⟩
theorem Seq.new{w0:World}{a0:Act}{m:Nat}{F:List Fact}{o:Oper}{os:List Oper}(c:Array Value)(t:TypeId)(h1:Ob P ops Q w0 a0 F o (.new w0.heap.size c t))(h2:Seq P ops Q w0 a0 m (F++[.new w0.heap.size c t]) os): Seq P ops Q w0 a0 m F (o::os):=⟨.new w0.heap.size c t,h1,h2⟩
theorem putFacts_prefix(F G:List Fact)(u:Nat→Value): ∀(l:List Nat) (a:Act),(∀i∈l,i<F.length)→putFacts ops (F++G) u l a=putFacts ops F u l a
 | [],_,_=>rfl
 |i::l,a,h=>by
  rw[putFacts,putFacts,List.getElem?_append_left (h i List.mem_cons_self)];exact putFacts_prefix F G u l _ fun j hj=>h j (List.mem_cons_of_mem _ hj)
theorem moreFacts_prefix(F G:List Fact)(u:Nat→Value)(w:World): ∀(l:List Nat),(∀i∈l,i<F.length)→moreFacts (F++G) u w l=moreFacts F u w l
 | [],_=>rfl
 |i::l,h=>by
  rw[moreFacts,moreFacts,List.getElem?_append_left (h i List.mem_cons_self),moreFacts_prefix F G u w l fun j hj=>h j (List.mem_cons_of_mem _ hj)]
theorem Seq.facts{w0:World}{a0:Act}{m:Nat}(hk:Okay ops m): ∀(os:List Oper) (F:List Fact),Seq P ops Q w0 a0 m F os→ops.toList.take m=(ops.toList.take F.length)++os→F.length+os.length=m →
  ∃G:List Fact,G.length=os.length∧(∀(i:Nat) (o:Oper) (f:Fact),F.length≤i→i<m→ops[i]? = some o→(F++G)[i]? = some f→Ob P ops Q w0 a0 (F++G) o f) ∧
   (∀(u:Nat→Value) (w:World),Grew w0 w→moreFacts (F++G) u w (List.range m)∧apartFacts (F++G) u (List.range m)→wpList P ops Q (ops.toList.drop m) (putFacts ops (F++G) u (List.range m) a0) w):=by
 intro os
 induction os with
 |nil =>
  intro F h _ hl;refine⟨[],rfl,fun i o f h1 h2=>by simp at hl;omega,?_⟩;rw[List.append_nil]
  exact h
 |cons o os ih =>
  intro F h htake hl;obtain⟨f,hob,hrest⟩:=h;have hlen:(F++[f]).length=F.length+1:=by simp
  have hFm:F.length<m:=by simp at hl;omega
  have hFs:F.length<ops.toList.length:=by have:=hk.le;simp;omega
  have hoF:ops.toList[F.length]? = some o:=by
   have h1:(ops.toList.take m)[F.length]? = some o:=by
    rw[htake,List.getElem?_append_right (by simp;omega)];simp;have:F.length-min F.length ops.size=0:=by simp at hFs;omega
    rw[this];rfl
   rwa [List.getElem?_take_of_lt hFm] at h1
  have htake':ops.toList.take m=ops.toList.take (F++[f]).length++os:=by
   rw[htake,hlen,List.take_add_one,hoF];simp
  obtain⟨G,hG,hobs,hend⟩:=ih (F++[f]) hrest htake' (by simp at hl;simp;omega);have happ:F++[f]++G=F++(f::G):=by simp
  rw[happ] at hobs hend;refine⟨f::G,by simp[hG],fun i o' f' h1 h2 ho' hf'=>?_,hend⟩;by_cases hi:i=F.length
  ·subst hi
   have:o'=o:=by
    have h3:ops.toList[F.length]? = some o':=by simpa using ho'
    rw[hoF] at h3;cases h3;rfl
   subst this;rw[List.getElem?_append_right (Nat.le_refl _),Nat.sub_self] at hf';cases hf';intro w u hg hmf;have hd:∀j∈o'.deps,j<F.length:=fun j hj=>hk.depsLt _ o' ho' j hj
   rw[putFacts_prefix F (f::G) u _ _ hd];rw[moreFacts_prefix F (f::G) u w _ hd] at hmf;exact hob w u hg hmf
  ·exact hobs i o' f' (by rw[hlen];omega) h2 ho' hf'
theorem wp_region_seq{id:Nat}{l:List Oper}{a0:Act}{w0:World}(m:Nat)(hm:P.follows .mixedOrders=true)(hok:Region.factsOk l.toArray m=true)
  (hsz:Region.dstsIn l.toArray m a0.tmps.size=true)
  (h:Seq P l.toArray Q w0.drew a0 m [] (l.take m)):(Code.region id l.toArray true).wp P Q a0 w0:=by
 have hk:=okay_of hok;have hle:m≤l.length:=by simpa using hk.le
 obtain⟨G,hG,hobs,hend⟩:=Seq.facts hk (l.take m) [] h (by simp) (by simp;omega);rw[List.nil_append] at hobs hend;have hGm:G.length=m:=by rw[hG];simp;omega
 refine wp_region_any hm (wpAny_facts hk hGm (fun i o f hi ho hf=>hobs i o f (Nat.zero_le _) hi ho hf) ?_ hend _ _ _ _ ?_ (by simp) ?_ ?_)
 ·intro i t hi hit;have:=List.all_eq_true.1 hsz i (List.mem_range.2 hi);rw[hit] at this;simpa using this
 ·refine⟨Grew.refl _,rfl,rfl,fun _ _=>rfl,fun i f t hl _ _=>?_,fun i j t t' _ hl _ _ _ _ _=>?_,fun i _ _ _ hl _=>?_⟩
  all_goals
   rw[Array.getD_eq_getD_getElem?,Array.getElem?_replicate] at hl;split at hl<;>cases hl
 ·intro i _ hi;simp at hi;simp[hi]
 ·exact Nat.le_trans (List.length_filter_le _ _) (by simp)
end
end Go
namespace Go
open Go.RowKit
def RowsAt{α:Type}(k:Nat)(enc:α→List Value)(w:World)(v:Value)(l:List α): Prop :=
 ∃a cap,v = .slice a l.length cap∧l.length≤maxLen∧(l≠[]→∃b off,a=some ⟨b,off,none⟩∧∀(i:Nat) (x:α),l[i]? = some x→∀(j:Nat) (u:Value),(enc x)[j]? = some u→w.cell? ⟨b,off+i*k+j,none⟩=some u)
section
variable {α:Type} {k:Nat} {enc:α→List Value} {w w':World} {v:Value} {l:List α}
theorem RowsAt.of_cells(h:RowsAt k enc w v l)(hc:∀a u,w.cell? a=some u→w'.cell? a=some u): RowsAt k enc w' v l:=by
 obtain⟨a,cap,rfl,hm,hl⟩:=h;refine⟨a,cap,rfl,hm,fun hne=>?_⟩;obtain⟨b,off,rfl,hx⟩:=hl hne;exact⟨b,off,rfl,fun i x hi j u hu=>hc _ _ (hx i x hi j u hu)⟩
theorem below_keeps(h:Below w.heap.size w w')(a:Addr)(u:Value)(hc:w.cell? a=some u): w'.cell? a=some u :=
 (h.cell (World.block_lt_of_cell? w a hc)).trans hc
theorem RowsAt.grew(h:RowsAt k enc w v l)(g:Grew w w'): RowsAt k enc w' v l:=h.of_cells (below_keeps g.below)
theorem RowsAt.nil:RowsAt k enc w (.slice none 0 0) []:=⟨none,0,rfl,Nat.zero_le _,fun h=>absurd rfl h⟩
theorem RowsAt.made(c:Array Value)(t:TypeId)(cap:Nat)(hl:l.length≤maxLen)(hc:∀(i:Nat) (x:α),l[i]? = some x→∀(j:Nat) (u:Value),(enc x)[j]? = some u→c[i*k+j]? = some u):
  RowsAt k enc (w.alloc (.cells c t)) (.slice (some ⟨w.heap.size,0,none⟩) l.length cap) l:=by
 refine⟨_,cap,rfl,hl,fun _=>⟨_,_,rfl,fun i x hi j u hu=>?_⟩⟩;rw[World.cell?_alloc_new,Nat.zero_add];exact hc i x hi j u hu
theorem flat_get(henc:∀x,(enc x).length=k): ∀(l:List α) (i:Nat) (x:α),l[i]? = some x→∀(j:Nat) (u:Value),(enc x)[j]? = some u→(l.flatMap enc)[i*k+j]? = some u
 | [],i,x,hi,_,_,_=>by simp at hi
 |y::l,0,x,hi,j,u,hu=>by
  simp at hi;subst hi;rw[List.flatMap_cons,Nat.zero_mul,Nat.zero_add,List.getElem?_append_left (List.getElem?_eq_some_iff.1 hu).1]
  exact hu
 |y::l,i+1,x,hi,j,u,hu=>by
  rw[List.flatMap_cons,Nat.add_one_mul,List.getElem?_append_right (by rw[henc];omega),henc,show i*k+k+j-k=i*k+j by omega];exact flat_get henc l i x (by simpa using hi) j u hu
theorem RowsAt.fresh{n:Nat}{t:TypeId}{cap:Nat}{ls:Nat}{c:List Value}(hls:ls=l.length)(hl:l.length≤maxLen)(henc:∀x,(enc x).length=k)(hn:n=w.heap.size)(hc:c=l.flatMap enc):
  RowsAt k enc (w.alloc (.cells c.toArray t)) (.slice (some ⟨n,0,none⟩) ls cap) l:=by
 subst hls hn hc
 exact RowsAt.made _ t cap hl fun i x hi j u hu=>by
  rw[List.getElem?_toArray];exact flat_get henc l i x hi j u hu
theorem RowsAt.len(h:RowsAt k enc w v l): ∃a cap,v = .slice a l.length cap:=let ⟨a,cap,e,_⟩:=h;⟨a,cap,e⟩
end
theorem RowsAt.open2{α:Type}{f g:α→Value}{w:World}{v:Value}{l:List α}(h:RowsAt 2 (fun x=>[f x,g x]) w v l):
  ∃a cap,v = .slice a l.length cap∧l.length≤9223372036854775807∧∀i (hi:i<l.length),∃b off,a=some ⟨b,off,none⟩∧Pre b w∧w.cell? ⟨b,off+i*2,none⟩=some (f l[i])∧w.cell? ⟨b,off+i*2+1,none⟩=some (g l[i]):=by
 obtain⟨a,cap,rfl,hm,hl⟩:=h;refine⟨a,cap,rfl,by unfold maxLen at hm;omega,fun i hi=>?_⟩;obtain⟨b,off,rfl,hx⟩:=hl (by intro e;subst e;simp at hi);have h0:=hx i l[i] (List.getElem?_eq_getElem hi) 0 (f l[i]) rfl;have h1:=hx i l[i] (List.getElem?_eq_getElem hi) 1 (g l[i]) rfl;exact⟨b,off,rfl,Pre.ofCell h0,h0,h1⟩
theorem RowsAt.open1{α:Type}{f:α→Value}{w:World}{v:Value}{l:List α}(h:RowsAt 1 (fun x=>[f x]) w v l):
  ∃a cap,v = .slice a l.length cap∧l.length≤9223372036854775807∧∀i (hi:i<l.length),∃b off,a=some ⟨b,off,none⟩∧Pre b w∧w.cell? ⟨b,off+i,none⟩=some (f l[i]):=by
 obtain⟨a,cap,rfl,hm,hl⟩:=h;refine⟨a,cap,rfl,by unfold maxLen at hm;omega,fun i hi=>?_⟩;obtain⟨b,off,rfl,hx⟩:=hl (by intro e;subst e;simp at hi);have h0:=hx i l[i] (List.getElem?_eq_getElem hi) 0 (f l[i]) rfl;rw[Nat.mul_one,Nat.add_zero] at h0;exact⟨b,off,rfl,Pre.ofCell h0,h0⟩
end Go
namespace Go
open Go.RowKit
def OwnAt{α:Type}(base:Nat)(e:TypeId)(k:Nat)(enc:α→List Value)(w:World)(v:Value)(l:List α): Prop:=w.ownsRow base e k v l.length (l.flatMap enc)
section
variable {α:Type} {base:Nat} {e:TypeId} {k:Nat} {enc:α→List Value} {w w' w0:World} {v:Value} {l:List α}
theorem Grew.grown{row:Option Nat}(g:Grew w0 w)(h:w.grownBy w' row)(hr:∀k,row=some k→w0.heap.size≤k): Grew w0 w' :=
 Grew.ofBelow (g.below.grown h g.below.size hr)
theorem OwnAt.grew(h:OwnAt base e k enc w v l)(g:Grew w w'): OwnAt base e k enc w' v l:=by
 obtain⟨h1,h2⟩:=h;refine⟨h1,?_⟩;rcases h2 with h|⟨b,cap,cur,hv,hb,hh,r⟩
 ·exact .inl h
 ·refine .inr ⟨b,cap,cur,hv,hb,?_,r⟩;rw[g.below.block b (Array.getElem?_eq_some_iff.1 hh).1];exact hh
theorem OwnAt.nil(w:World): OwnAt base e k enc w (.slice none 0 0) []:=World.ownsRow_nil w base e k
theorem OwnAt.lt(h:OwnAt base e k enc w v l): ∀k,v.ownBlock=some k→base≤k:=fun q hq=>(World.ownsRow.lt h q hq).1
theorem addr_add_zero(b j:Nat): ((⟨b,0,none⟩:Addr).add j)=⟨b,j,none⟩:=by
 unfold Addr.add;split
 ·rename_i h;have:j=0:=by simpa using h
  rw[this]
 ·simp
theorem OwnAt.rows(h:OwnAt base e k enc w v l)(henc:∀x,(enc x).length=k): RowsAt k enc w v l:=by
 obtain⟨h1,h2⟩:=h;rcases h2 with ⟨rfl,h3⟩|⟨b,cap,cur,rfl,hb,hh,hc,hm,hs,ht⟩
 ·have:l=[]:=List.eq_nil_of_length_eq_zero h3;subst this;exact RowsAt.nil
 ·refine⟨_,cap,rfl,Nat.le_trans hc hm,fun _=>⟨b,0,rfl,fun i x hi j u hu=>?_⟩⟩;have h3:=flat_get henc l i x hi j u hu;rw[←ht,List.getElem?_take] at h3;split at h3
  ·unfold World.cell?;rw[hh];simpa using h3
  ·cases h3
theorem OwnAt.form(h:OwnAt base e k enc w v l): (v = .slice none 0 0∧l=[])∨∃b cap,v = .slice (some ⟨b,0,none⟩) l.length cap∧base≤b∧l.length≤cap∧cap≤maxLen:=by
 obtain⟨h1,h2⟩:=h;rcases h2 with ⟨rfl,h3⟩|⟨b,cap,cur,rfl,hb,hh,hc,hm,hs,ht⟩
 ·exact .inl ⟨rfl,List.eq_nil_of_length_eq_zero h3⟩
 ·exact .inr ⟨b,cap,rfl,hb,hc,hm⟩
theorem OwnAt.form1{y:α}(h:OwnAt base e k enc w v (l++[y])): ∃b cap,v = .slice (some ⟨b,0,none⟩) (l.length+1) cap∧base≤b∧l.length+1≤cap∧cap≤maxLen:=by
 rcases h.form with ⟨_,h⟩|⟨b,cap,h1,h2,h3,h4⟩
 ·simp at h
 ·rw[List.length_append] at h1 h3;exact⟨b,cap,h1,h2,h3,h4⟩
theorem new_cells(W:World)(c:Array Value)(t:TypeId)(b:Nat)(hb:b=W.heap.size)(j:Nat): (W.alloc (.cells c t)).cell? ⟨b,j,none⟩=c[j]? :=by
 subst hb;rw[World.cell?_alloc_at _ _ _ _ rfl]
theorem wpList_own1{P:Program}{ops:Array Oper}{rest:List Oper}{o:Oper}{a:Act}{Q:Exit→Act→World→Prop}{W:World}
  (hgd:o.guard=none) (s x:Operand) (t:TypeId) (z:Value) (bytes c0 b:Nat) (y:α)
  (ho:o.op = .call { callee:=.builtin .append,args:=#[s,x],argTypes:=#[t,t] })
  (ht:P.underlying t=some (.slice e)) (hinfo:(P.info? e).map (fun i=>(i.zero,i.size,i.bytes))=some (some z,k,bytes)) (hz:z.cells.size=k) (hk:0<k)
  (henc:∀x,(enc x).length=k) (hone:∀x,∀u∈enc x,u.oneCell'=true)
  (hs:a.eval s=v) (hown:OwnAt w0.heap.size e k enc W v l) (hg:Grew w0 W)
  (hx:a.eval x = .slice (some ⟨b,0,none⟩) 1 c0) (hb:∀j u,(enc y)[j]? = some u→W.cell? ⟨b,j,none⟩=some u)
  (hlen:l.length≤1000000) (hby:bytes≤1000)
  (h:∀v' R N,OwnAt w0.heap.size e k enc (w0.more R N) v' (l++[y])→wpList P ops Q rest (a.put o.dst v') (w0.more R N)):wpList P ops Q (o::rest) a W:=by
 obtain⟨i,hi,hz0,hz1,hz2⟩:=info_parts hinfo;have hmul:(l.length+1)*bytes≤1000001*1000:=Nat.mul_le_mul (by omega) hby;refine wpList_append_own W hgd s x t ho w0.heap.size e i z k bytes ht hi hz0 hz1 hz2 hz hk v l.length (l.flatMap enc) hs hown ⟨b,0,none⟩ 1 c0 (enc y) hx (by rw[henc,Nat.one_mul]) ?_ (hone y) (by unfold maxLen;omega) (by omega) hg.below.size ?_
 ·intro j u hj;rw[addr_add_zero];exact hb j u hj
 ·intro v' w' h1 h2 _;obtain⟨R,N,rfl⟩:=hg.grown h2 (fun q hq=>OwnAt.lt hown q hq);refine h v' R N ?_;unfold OwnAt;rw[List.length_append,List.flatMap_append];simpa using h1
theorem flat_inv(henc:∀x,(enc x).length=k): ∀(l:List α) (j:Nat) (u:Value),(l.flatMap enc)[j]? = some u→∃i x r,l[i]? = some x∧(enc x)[r]? = some u∧j=i*k+r
 | [],j,u,h=>by simp at h
 |y::l,j,u,h=>by
  rw[List.flatMap_cons] at h;by_cases hj:j<k
  ·rw[List.getElem?_append_left (by rw[henc];exact hj)] at h;exact⟨0,y,j,rfl,h,by omega⟩
  ·rw[List.getElem?_append_right (by rw[henc];omega),henc] at h;obtain⟨i,x,r,h1,h2,h3⟩:=flat_inv henc l (j-k) u h;exact⟨i+1,x,r,by simpa using h1,h2,by rw[Nat.add_one_mul];omega⟩
theorem flat_length(henc:∀x,(enc x).length=k): ∀(l:List α),(l.flatMap enc).length=l.length*k
 | []=>by simp
 | y::l=>by rw[List.flatMap_cons,List.length_append,henc,flat_length henc l,List.length_cons,Nat.add_one_mul];omega
theorem addr_add_off(b off j:Nat): ((⟨b,off,none⟩:Addr).add j)=⟨b,off+j,none⟩:=by
 unfold Addr.add;split
 ·rename_i h;have:j=0:=by simpa using h
  simp[this]
 ·rfl
theorem RowsAt.take{a:Option Addr}{n cap j:Nat}(h:RowsAt k enc w (.slice a n cap) l)(hj:j≤n): RowsAt k enc w (.slice a j cap) (l.take j):=by
 obtain⟨a',cap',e,hm,hx⟩:=h;cases e;have hlen:(l.take j).length=j:=by rw[List.length_take];omega
 refine⟨a,cap,by rw[hlen],by omega,fun hne=>?_⟩;obtain⟨b,off,rfl,hc⟩:=hx (by intro e;rw[e] at hne;simp at hne);refine⟨b,off,rfl,fun i x hi r u hu=>?_⟩;rw[List.getElem?_take] at hi;split at hi
 ·exact hc i x hi r u hu
 ·cases hi
theorem wpList_ownM{P:Program}{ops:Array Oper}{rest:List Oper}{o:Oper}{a:Act}{Q:Exit→Act→World→Prop}{W:World}
  (hgd:o.guard=none) (s x:Operand) (t:TypeId) (z:Value) (bytes:Nat) (vx:Value) (l2:List α)
  (ho:o.op = .call { callee:=.builtin .append,args:=#[s,x],argTypes:=#[t,t] })
  (ht:P.underlying t=some (.slice e)) (hinfo:(P.info? e).map (fun i=>(i.zero,i.size,i.bytes))=some (some z,k,bytes)) (hz:z.cells.size=k) (hk:0<k)
  (henc:∀x,(enc x).length=k) (hone:∀x,∀u∈enc x,u.oneCell'=true)
  (hs:a.eval s=v) (hown:OwnAt w0.heap.size e k enc W v l) (hg:Grew w0 W)
  (hx:a.eval x=vx) (hrows:RowsAt k enc W vx l2) (hnil:vx = .slice none 0 0∨∃ad c,vx = .slice (some ad) l2.length c)
  (hlen:l.length+l2.length≤1000000) (hby:bytes≤1000)
  (h:∀v' R N,OwnAt w0.heap.size e k enc (w0.more R N) v' (l++l2)→(v' = .slice none 0 0→v = .slice none 0 0)→wpList P ops Q rest (a.put o.dst v') (w0.more R N)):wpList P ops Q (o::rest) a W:=by
 obtain⟨i,hi,hz0,hz1,hz2⟩:=info_parts hinfo;obtain⟨a2,cap2,hv2,hm2,hc2⟩:=hrows;rcases hnil with h0|⟨ad,c,h0⟩
 ·subst h0
  have hl0:l2=[]:=by
   injection hv2 with _ h1 _
   exact List.eq_nil_of_length_eq_zero h1.symm
  subst hl0;obtain⟨R,N,rfl⟩:=hg;refine wpList_append_own_none hgd s x t ho w0.heap.size e i k ht hi v l.length (l.flatMap enc) hs hown hx (h v R N ?_ fun h=>h);rw[List.append_nil];exact hown
 ·subst h0;have hmul:(l.length+l2.length)*bytes≤1000000*1000:=Nat.mul_le_mul hlen hby;refine wpList_append_own W hgd s x t ho w0.heap.size e i z k bytes ht hi hz0 hz1 hz2 hz hk v l.length (l.flatMap enc) hs hown ad l2.length c (l2.flatMap enc) hx (flat_length henc l2) ?_ ?_ (by unfold maxLen;omega) (by omega) hg.below.size ?_
  ·intro j u hj;obtain⟨q,y,r,h1,h2,rfl⟩:=flat_inv henc l2 j u hj;obtain⟨b,off,hb,hcell⟩:=hc2 (by intro e;subst e;simp at h1);cases hv2;cases hb;rw[addr_add_off,←Nat.add_assoc];exact hcell q y h1 r u h2
  ·intro u hu;obtain⟨y,_,hy⟩:=List.mem_flatMap.1 hu;exact hone y u hy
  ·intro v' w' h1 h2 h3;obtain⟨R,N,rfl⟩:=hg.grown h2 (fun q hq=>OwnAt.lt hown q hq);refine h v' R N ?_ fun h=>(h3.1 h).1
   unfold OwnAt;rw[List.length_append,List.flatMap_append];exact h1
theorem OwnAt.lit(w:World)(b:Nat)(hb:b=w.heap.size)(hbase:base≤b): OwnAt (α:=α) base e k enc (w.alloc (.cells #[] e)) (.slice (some ⟨b,0,none⟩) 0 0) []:=by
 subst hb;exact World.ownsRow_lit w #[] 0 hbase (Nat.zero_le _) (by simp)
end
end Go
namespace Go
open Go.RowKit
theorem flat_take{α:Type}{k:Nat}{enc:α→List Value}(henc:∀x,(enc x).length=k): ∀(l:List α) (m:Nat),(l.take m).flatMap enc=(l.flatMap enc).take (m*k)
 | [],m=>by simp
 | y::l,0=>by simp
 |y::l,m+1=>by
  have hy:(enc y).length=k:=henc y;rw[List.take_succ_cons,List.flatMap_cons,List.flatMap_cons,flat_take henc l m,Nat.add_one_mul,List.take_append,hy,List.take_of_length_le (l:=enc y) (by omega),show m*k+k-k=m*k by omega]
section
variable {α:Type} {base:Nat} {e:TypeId} {k:Nat} {enc:α→List Value} {w w' w0:World} {v:Value} {l:List α}
theorem OwnAt.cut{b n cap m:Nat}(h:OwnAt base e k enc w (.slice (some ⟨b,0,none⟩) n cap) l)(henc:∀x,(enc x).length=k)(hm:m≤l.length): OwnAt base e k enc w (.slice (some ⟨b,0,none⟩) m cap) (l.take m):=by
 obtain⟨h1,h2⟩:=h;have hlen:(l.take m).length=m:=by rw[List.length_take];omega
 refine⟨by rw[flat_length henc],?_⟩;rcases h2 with ⟨h,_⟩|⟨g,cap',cur,hv,hb,hh,hc,hm',hs,ht⟩
 ·cases h
 ·cases hv;refine .inr ⟨b,cap,cur,by rw[hlen],hb,hh,by rw[hlen];omega,hm',hs,?_⟩;rw[hlen,flat_take henc,←ht,List.take_take]
  congr 1
  exact(Nat.min_eq_left (Nat.mul_le_mul_right k hm)).symm
theorem OwnAt.fresh{n ls cap:Nat}{t:TypeId}{c:List Value}(ht:t=e)(hls:ls=l.length)(hcap:cap=l.length)(hl:l.length≤maxLen)(henc:∀x,(enc x).length=k)(hn:n=w.heap.size)(hb:base≤n)(hc:c=l.flatMap enc):
  OwnAt base e k enc (w.alloc (.cells c.toArray t)) (.slice (some ⟨n,0,none⟩) ls cap) l:=by
 subst ht hls hcap hn hc;refine⟨flat_length henc l,.inr ⟨_,l.length,(l.flatMap enc).toArray,rfl,hb,?_,Nat.le_refl _,hl,?_,?_⟩⟩
 ·show(w.heap.push _)[w.heap.size]? = _;simp
 ·simp[flat_length henc l]
 ·rw[List.take_of_length_le (by simp[flat_length henc l])]
theorem OwnAt.block(h:OwnAt base e k enc w v l){q:Nat}(hq:v.ownBlock=some q): base≤q∧∃c,w.heap[q]? = some (.cells c e):=by
 obtain⟨h1,h2⟩:=h;rcases h2 with ⟨rfl,_⟩|⟨g,cap',cur,rfl,hb,hh,_⟩
 ·cases hq
 ·cases hq;exact⟨hb,cur,hh⟩
theorem OwnAt.other(h:OwnAt base e k enc w v l){q:Nat}{c:Array Value}{t:TypeId}(hq:w.heap[q]? = some (.cells c t))(hne:t≠e): v.ownBlock≠some q:=by
 intro e1;obtain⟨_,c',h'⟩:=h.block e1;rw[hq] at h';cases h';exact hne rfl
theorem OwnAt.same(h:OwnAt base e k enc w v l)(hb:∀b,v.ownBlock=some b→w'.heap[b]? = w.heap[b]?): OwnAt base e k enc w' v l:=by
 obtain⟨h1,h2⟩:=h;refine⟨h1,?_⟩;rcases h2 with h|⟨g,cap,cur,rfl,hg,hh,r⟩
 ·exact .inl h
 ·exact .inr ⟨g,cap,cur,rfl,hg,by rw[hb g rfl];exact hh,r⟩
end
theorem set_self{W:World}{b o:Nat}{c:Array Value}{t:TypeId}{f:Nat×Nat}{v:Value}(h:W.heap[b]? = some (.cells c t f)): (W.setCell ⟨b,o,none⟩ v).heap[b]? = some (.cells (c.setIfInBounds o v) t f):=by
 unfold World.setCell;simp only[Array.getElem?_modify,if_true,h];rfl
theorem set_other{W:World}{b b' o:Nat}{v:Value}(h:b≠b'): (W.setCell ⟨b,o,none⟩ v).heap[b']? = W.heap[b']? :=by
 unfold World.setCell;simp only[Array.getElem?_modify,h,if_false]
theorem cell_of{W:World}{b o:Nat}{c:Array Value}{t:TypeId}{f:Nat×Nat}(h:W.heap[b]? = some (.cells c t f)): W.cell? ⟨b,o,none⟩=c[o]? :=by
 unfold World.cell?;rw[h];simp
theorem frozen_of{W:World}{b o:Nat}{c:Array Value}{t:TypeId}(h:W.heap[b]? = some (.cells c t)): W.frozen? ⟨b,o,none⟩=false:=by
 unfold World.frozen?;rw[h];simp
theorem heap_lt{W:World}{b:Nat}{x:Obj}(h:W.heap[b]? = some x): b<W.heap.size:=(Array.getElem?_eq_some_iff.1 h).1
theorem grew_heap{W W':World}{b:Nat}{x:Obj}(g:Grew W W')(h:W.heap[b]? = some x): W'.heap[b]? = some x:=by
 rw[g.below.block b (heap_lt h)];exact h
theorem Grew.set{w0 W:World}(g:Grew w0 W){b o:Nat}(hb:w0.heap.size≤b)(v:Value): Grew w0 (W.setCell ⟨b,o,none⟩ v) :=
 Grew.ofBelow (g.below.setCell hb _)
theorem heap_alloc'{W:World}{b:Nat}{x:Obj}(h:W.heap[b]? = some x)(o:Obj): (W.alloc o).heap[b]? = some x:=by
 have hb:=heap_lt h;show(W.heap.push o)[b]? = some x;rw[Array.getElem?_push_lt hb];rw[←h,Array.getElem?_eq_getElem hb]
def Appended{α:Type}(w0:World)(e:TypeId)(k:Nat)(enc:α→List Value)(W:World)(v:Value)(l:List α)(v':Value)(W':World): Prop :=
 Grew w0 W'∧OwnAt w0.heap.size e k enc W' v' l∧W.heap.size≤W'.heap.size∧(∀q,q<W.heap.size→v.ownBlock≠some q→W'.heap[q]? = W.heap[q]?)∧(∀q,v'.ownBlock=some q→v.ownBlock=some q∨W.heap.size≤q)
theorem run_ownK{α:Type}{e:TypeId}{k:Nat}{enc:α→List Value}{w0:World}{v:Value}{l:List α}{P:Program}{W:World}(t ty:TypeId)(z:Value)(bytes c0 b:Nat)(l2:List α)
  (ht:P.underlying t=some (.slice e)) (hinfo:(P.info? e).map (fun i=>(i.zero,i.size,i.bytes))=some (some z,k,bytes)) (hz:z.cells.size=k) (hk:0<k)
  (henc:∀x,(enc x).length=k) (hone:∀x,∀u∈enc x,u.oneCell'=true)
  (hown:OwnAt w0.heap.size e k enc W v l) (hg:Grew w0 W)
  (hb:∀j u,(l2.flatMap enc)[j]? = some u→W.cell? ⟨b,j,none⟩=some u)
  (hlen:l.length+l2.length≤1000000) (hby:bytes≤1000) :
  ∃v' W',(Builtin.append_ #[t,t] ty #[v,.slice (some ⟨b,0,none⟩) l2.length c0]).run P W = .ok v' W'∧Appended w0 e k enc W v (l++l2) v' W':=by
 obtain⟨i,hi,hz0,hz1,hz2⟩:=info_parts hinfo;have hmul:(l.length+l2.length)*bytes≤1000000*1000:=Nat.mul_le_mul hlen hby;have hnews:∀j u,(l2.flatMap enc)[j]? = some u→W.cell? ((⟨b,0,none⟩:Addr).add j)=some u:=fun j u hj=>by rw[addr_add_zero];exact hb j u hj
 have h1c:∀u∈l2.flatMap enc,u.oneCell'=true:=by
  intro u hu;obtain⟨y,_,hy⟩:=List.mem_flatMap.1 hu;exact hone y u hy
 have hlt:∀q,v.ownBlock=some q→w0.heap.size≤q:=fun q hq=>OwnAt.lt hown q hq
 have fin:∀v' W' (row:Option Nat),W.grownBy W' row→(∀q,row=some q→v.ownBlock=some q)→W'.ownsRow w0.heap.size e k v' (l.length+l2.length) (l.flatMap enc++l2.flatMap enc)→(∀q,v'.ownBlock=some q→v.ownBlock=some q∨W.heap.size≤q)→Appended w0 e k enc W v (l++l2) v' W':=by
  intro v' W' row h2 hrow h1 h3;refine⟨hg.grown h2 (fun q hq=>hlt q (hrow q hq)),?_,h2.size,fun q hq hne=>h2.block q hq fun e=>hne (hrow q e.symm),h3⟩;unfold OwnAt;rw[List.length_append,List.flatMap_append];exact h1
 have low:∀{v' W' n xs},World.ownsRow W' W.heap.size e k v' n xs→W'.ownsRow w0.heap.size e k v' n xs:=by
  rintro v' W' n xs ⟨h3,h4⟩;refine⟨h3,?_⟩;rcases h4 with h|⟨g2,cap2,cur,hv2,hb2,r⟩
  ·exact .inl h
  ·exact .inr ⟨g2,cap2,cur,hv2,Nat.le_trans hg.below.size hb2,r⟩
 rcases hown.form with ⟨hv,hl0⟩|⟨g,cap,hv,hbase,hcap,hmax⟩
 ·subst hv hl0;simp only[List.length_nil,Nat.zero_add] at hlen hmul;obtain⟨v',W',hrun,h1,h2,_⟩:=run_append_own (P:=P) W W.heap.size t ty e i z k bytes ht hi hz0 hz1 hz2 hz hk (.slice none 0 0) 0 [] (World.ownsRow_nil W _ e k) ⟨b,0,none⟩ l2.length c0 (l2.flatMap enc) (flat_length henc l2) hnews h1c (by unfold maxLen;omega) (by rw[Nat.zero_add];omega) (Nat.le_refl _);exact⟨v',W',hrun,fin v' W' none h2 (fun q hq=>by cases hq) (low h1) fun q hq=>.inr (World.ownsRow.lt h1 q hq).1⟩
 ·subst hv;by_cases hroom:l.length+l2.length≤cap
  ·obtain⟨W',hrun,h1,h2⟩:=run_append_fits (P:=P) W w0.heap.size t ty e i k ht hi hz1 g l.length cap (l.flatMap enc) hown ⟨b,0,none⟩ l2.length c0 (l2.flatMap enc) (flat_length henc l2) hnews h1c hroom;exact⟨_,W',hrun,fin _ W' (some g) h2 (fun q hq=>hq) h1 fun q hq=>.inl hq⟩
  ·have hr:=hown.rows henc
   have hold:∀j u,(l.flatMap enc)[j]? = some u→W.cell? ((⟨g,0,none⟩:Addr).add j)=some u:=by
    intro j u hj;obtain⟨q,y,r,h1,h2,rfl⟩:=flat_inv henc l j u hj;obtain⟨a2,cap2,hv2,_,hc2⟩:=hr;obtain⟨b3,off,hb3,hcell⟩:=hc2 (by intro e;subst e;simp at h1);cases hv2;cases hb3;rw[addr_add_zero];have:=hcell q y h1 r u h2;simpa using this
   obtain⟨v',W',hrun,h1,h2⟩:=run_append_arg_grows (P:=P) W t ty e i z k bytes ht hi hz0 hz1 hz2 hz hk ⟨g,0,none⟩ l.length cap (l.flatMap enc) (flat_length henc l) hold ⟨b,0,none⟩ l2.length c0 (l2.flatMap enc) (flat_length henc l2) hnews (by omega) (by unfold maxLen;omega) (by omega);exact⟨v',W',hrun,fin v' W' none h2 (fun q hq=>by cases hq) (low h1) fun q hq=>.inr (World.ownsRow.lt h1 q hq).1⟩
theorem wpList_ownK{α:Type}{e:TypeId}{k:Nat}{enc:α→List Value}{w0:World}{v:Value}{l:List α}{P:Program}{ops:Array Oper}{rest:List Oper}{o:Oper}{a:Act}{Q:Exit→Act→World→Prop}{W:World}
  (hgd:o.guard=none) (s x:Operand) (t:TypeId) (z:Value) (bytes c0 b:Nat) (l2:List α)
  (ho:o.op = .call { callee:=.builtin .append,args:=#[s,x],argTypes:=#[t,t] })
  (ht:P.underlying t=some (.slice e)) (hinfo:(P.info? e).map (fun i=>(i.zero,i.size,i.bytes))=some (some z,k,bytes)) (hz:z.cells.size=k) (hk:0<k)
  (henc:∀x,(enc x).length=k) (hone:∀x,∀u∈enc x,u.oneCell'=true)
  (hs:a.eval s=v) (hown:OwnAt w0.heap.size e k enc W v l) (hg:Grew w0 W)
  (hx:a.eval x = .slice (some ⟨b,0,none⟩) l2.length c0) (hb:∀j u,(l2.flatMap enc)[j]? = some u→W.cell? ⟨b,j,none⟩=some u)
  (hlen:l.length+l2.length≤1000000) (hby:bytes≤1000) (hne2:0<l2.length)
  (h:∀v' W',Appended w0 e k enc W v (l++l2) v' W'→wpList P ops Q rest (a.put o.dst v') W'):wpList P ops Q (o::rest) a W:=by
 refine wpList_plain hgd fun K hK'=>?_
 obtain⟨v',W',hrun,hA⟩:=run_ownK (P:=P) (c0:=c0) t o.type z bytes b l2 ht hinfo hz hk henc hone hown hg hb hlen hby;unfold Oper.wp;simp[execOp,ho,resolve,invoke,builtin,hs,hx,hrun,Result.andThen];exact hK' _ _ (h v' W' hA)
theorem Appended.refl{α:Type}{w0:World}{e:TypeId}{k:Nat}{enc:α→List Value}{W:World}{v:Value}{l:List α}(hg:Grew w0 W)(h:OwnAt w0.heap.size e k enc W v l): Appended w0 e k enc W v l v W :=
 ⟨hg,h,Nat.le_refl _,fun _ _ _=>rfl,fun q hq=>.inl hq⟩
theorem own_some'{α:Type}{base:Nat}{e:TypeId}{k:Nat}{enc:α→List Value}{w:World}{v:Value}{l:List α}(h:OwnAt base e k enc w v l)(hne:0<l.length): ∃b cap,v = .slice (some ⟨b,0,none⟩) l.length cap:=by
 rcases h.form with ⟨_,h⟩|⟨b,cap,h,_⟩
 ·rw[h] at hne;cases hne
 ·exact⟨b,cap,h⟩
end Go
namespace Go.Proofs.YtipgfjihdglocaaGreat
open Go.RowKit
def Keep(B:Nat)(w w':World): Prop:=w.heap.size≤w'.heap.size∧∀q,q<w.heap.size→q≠B→w'.heap[q]? = w.heap[q]?
theorem Keep.ofGrew{B:Nat}{w w':World}(g:Grew w w'): Keep B w w':=⟨g.below.size,fun q hq _=>g.below.block q hq⟩
theorem Keep.trans{B:Nat}{a b c:World}(h:Keep B a b)(k:Keep B b c): Keep B a c :=
 ⟨Nat.le_trans h.1 k.1,fun q hq hn=>(k.2 q (Nat.lt_of_lt_of_le hq h.1) hn).trans (h.2 q hq hn)⟩
theorem Keep.set{w:World}{B:Nat}(v:Value): Keep B w (w.setCell ⟨B,0,none⟩ v) :=
 ⟨by simp[World.size_setCell],fun q _ hn=>set_other (fun e=>hn e.symm)⟩
theorem Keep.own{α:Type}{base B:Nat}{e:TypeId}{k:Nat}{enc:α→List Value}{w w':World}{v:Value}{l:List α}(h:Keep B w w')(ho:OwnAt base e k enc w v l)(hne:v.ownBlock≠some B): OwnAt base e k enc w' v l :=
 OwnAt.same ho fun b hb=>h.2 b (by have:=(World.ownsRow.lt ho b hb).2;exact this) (fun e=>hne (by rw[hb,e]))
abbrev str(l:List UInt8): Value:=.string ⟨l.toArray⟩
theorem str_cat(a b:List UInt8): (⟨a.toArray⟩++⟨b.toArray⟩:ByteArray)=⟨(a++b).toArray⟩:=ByteArray.mk_append_mk a b
theorem OwnAt.low{α:Type}{base base':Nat}{e:TypeId}{k:Nat}{enc:α→List Value}{w:World}{v:Value}{l:List α}(h:OwnAt base e k enc w v l)(hb:base'≤base): OwnAt base' e k enc w v l:=by
 obtain⟨h3,h4⟩:=h;refine⟨h3,?_⟩;rcases h4 with h|⟨g2,cap2,cur,hv2,hb2,r⟩
 ·exact .inl h
 ·exact .inr ⟨g2,cap2,cur,hv2,Nat.le_trans hb hb2,r⟩
end Go.Proofs.YtipgfjihdglocaaGreat
namespace Go
open Go.RowKit Go.ChangeShapes Go.WideShapes
def Opens{α:Type}(P:Program)(t:TypeId)(R:World→List Value→α→Prop): Prop :=
 ∀(H:Type) (enc:TypeId×Value→H) (w:World) (fuel:Nat) (cs:List Value) (x:DataW H×List MemPlace),DataW.trod enc P w 0 (fun _=>true) true fuel t cs=some x→∃a,R w cs a
theorem Opens.mono{α β:Type}{P:Program}{t:TypeId}{R:World→List Value→α→Prop}{S:World→List Value→β→Prop}(h:Opens P t R)(hs:∀w cs a,R w cs a→∃b,S w cs b): Opens P t S :=
 fun H enc w fuel cs x hx=>let ⟨a,ha⟩:=h H enc w fuel cs x hx;hs w cs a ha
theorem Opens.int{P:Program}{t:TypeId}{k:IntKind}(ht:P.underlying t=some (.int k)): Opens P t (fun _ cs (n:Int)=>cs=[.int k n]∧(Lit.int k n).wf=true) :=
 fun _ _ _ _ _ _ hx=>let ⟨n,h1,_,h2⟩:=DataW.trod_int ht hx;⟨n,h1,h2⟩
theorem wf_range{n:Int}(h:(Lit.int .i64 n).wf=true): -9223372036854775808≤n∧n≤9223372036854775807:=by
 simpa [Lit.wf,IntKind.min,IntKind.max,IntKind.signed,IntKind.bits] using h
theorem Opens.i64{P:Program}{t:TypeId}(ht:P.underlying t=some (.int .i64)): Opens P t (fun _ cs (n:Int)=>cs=[.int .i64 n] ∧ -9223372036854775808≤n∧n≤9223372036854775807) :=
 (Opens.int ht).mono fun _ _ n ⟨h1,h2⟩=>⟨n,h1,wf_range h2⟩
theorem Opens.bool{P:Program}{t:TypeId}(ht:P.underlying t=some .bool): Opens P t (fun _ cs (b:Bool)=>cs=[.bool b]):=by
 intro H enc w fuel cs x hx
 cases fuel with
 | zero=>simp[DataW.trod] at hx
 |succ n =>
  unfold DataW.trod at hx;rw[ht] at hx;split at hx<;>simp_all
theorem Opens.string{P:Program}{t:TypeId}(ht:P.underlying t=some .string): Opens P t (fun _ cs (s:ByteArray)=>cs=[.string s]∧s.size≤maxLen):=by
 intro H enc w fuel cs x hx
 cases fuel with
 | zero=>simp[DataW.trod] at hx
 |succ n =>
  unfold DataW.trod at hx;rw[ht] at hx;split at hx<;>simp_all
theorem Opens.fields{P:Program}{t:TypeId}{fs:Array Field}(ht:P.underlying t=some (.struct fs)){H:Type}{enc:TypeId×Value→H}{w:World}{fuel:Nat}{cs:List Value}{x:DataW H×List MemPlace}
  (hx:DataW.trod enc P w 0 (fun _=>true) true fuel t cs=some x):cs.length=P.cellsOf t∧∀(i:Nat) (f:Field),fs[i]? = some f→∃n y,DataW.trod enc P w 0 (fun _=>true) true n f.type ((cs.drop f.offset).take (P.cellsOf f.type))=some y:=by
 obtain⟨xs,n,_,_,hl,hlen,hf⟩:=DataW.trod_struct ht hx;refine⟨hl,fun i f hi=>?_⟩;have h1:=hf i f hi;have h2:i<xs.length:=by rw[hlen];exact(Array.getElem?_eq_some_iff.1 hi).1
 rw[List.getElem?_eq_getElem h2] at h1;exact⟨n,_,h1⟩
theorem Opens.elems{P:Program}{t e:TypeId}{n:Nat}(ht:P.underlying t=some (.array n e)){H:Type}{enc:TypeId×Value→H}{w:World}{fuel:Nat}{cs:List Value}{x:DataW H×List MemPlace}
  (hx:DataW.trod enc P w 0 (fun _=>true) true fuel t cs=some x):cs.length=P.cellsOf t∧∀i,i<n→∃m y,DataW.trod enc P w 0 (fun _=>true) true m e ((cs.drop (i*P.cellsOf e)).take (P.cellsOf e))=some y:=by
 cases fuel with
 | zero=>simp[DataW.trod] at hx
 |succ fuel =>
  unfold DataW.trod at hx;rw[ht] at hx;simp only at hx;split at hx
  ·rename_i hl
   refine⟨hl,fun i hi=>?_⟩
   cases hm:(List.range n).mapM (fun i=>DataW.trod enc P w 0 (fun _=>true) true fuel e ((cs.drop (i*P.cellsOf e)).take (P.cellsOf e))) with
   | none=>rw[hm] at hx;cases hx
   |some xs =>
    have key:∀(l:List Nat) (ys:List (DataW H×List MemPlace)),l.mapM (fun i=>DataW.trod enc P w 0 (fun _=>true) true fuel e ((cs.drop (i*P.cellsOf e)).take (P.cellsOf e)))=some ys→∀i∈l,∃y,DataW.trod enc P w 0 (fun _=>true) true fuel e ((cs.drop (i*P.cellsOf e)).take (P.cellsOf e))=some y:=by
     intro l
     induction l with
     | nil=>intro ys _ i hi;cases hi
     |cons j l ih =>
      intro ys h i hi;rw[List.mapM_cons] at h
      cases hj:DataW.trod enc P w 0 (fun _=>true) true fuel e ((cs.drop (j*P.cellsOf e)).take (P.cellsOf e)) with
      | none=>rw[hj] at h;cases h
      |some y =>
       rw[hj] at h
       cases hr:l.mapM (fun i=>DataW.trod enc P w 0 (fun _=>true) true fuel e ((cs.drop (i*P.cellsOf e)).take (P.cellsOf e))) with
       | none=>rw[hr] at h;cases h
       |some zs =>
        rcases List.mem_cons.1 hi with rfl|hi
        ·exact⟨y,hj⟩
        ·exact ih zs hr i hi
    obtain⟨y,hy⟩:=key _ xs hm i (List.mem_range.2 hi);exact⟨fuel,y,hy⟩
  ·cases hx
def SlAt{α:Type}(k:Nat)(R:World→List Value→α→Prop)(w:World)(v:Value)(l:List α): Prop :=
 ∃a cap,v = .slice a l.length cap∧l.length≤cap∧cap≤maxLen∧(a=none→cap=0)∧(l≠[]→∃b off,a=some ⟨b,off,none⟩∧∀(i:Nat) (x:α),l[i]? = some x→∃cs,cs.length=k∧R w cs x∧∀(j:Nat) (u:Value),cs[j]? = some u→w.cell? ⟨b,off+i*k+j,none⟩=some u)
theorem cells_of_cells?{w:World}{a:Addr}{n:Nat}{cs:List Value}(h:w.cells? 0 a n=some cs): cs.length=n∧∀j u,cs[j]? = some u→w.cell? (a.add j)=some u:=by
 obtain⟨_,h1,h2⟩:=World.cells?_some h;exact⟨h1,fun j u hj=>(h2 j (h1▸(List.getElem?_eq_some_iff.1 hj).1)).trans hj⟩
theorem addr_of_cell{w:World}{a:Addr}{u:Value}(h:w.cell? a=some u): a=⟨a.block,a.off,none⟩:=by
 obtain⟨b,o,s⟩:=a;unfold World.cell? at h;split at h
 ·cases s with
  | none=>rfl
  | some _=>simp at h
 ·cases h
theorem Opens.slice{α:Type}{P:Program}{t e:TypeId}{k:Nat}{R:World→List Value→α→Prop}(ht:P.underlying t=some (.slice e))(hk:P.cellsOf e=k)(hk0:0<k)(h:Opens P e R):
  Opens P t (fun w cs (l:List α)=>∃v,cs=[v]∧SlAt k R w v l):=by
 intro H enc w fuel cs x hx;rcases Deep.open_slice ht hx with ⟨rfl,rfl⟩|⟨a,len,cap,m,n,D,Pl,rfl,_,hl,hm,hmm,_,hel⟩
 ·exact⟨[],_,rfl,none,0,rfl,Nat.le_refl _,Nat.zero_le _,fun _=>rfl,fun h=>absurd rfl h⟩
 ·have hlm:∀i,i<len→i<m:=fun i hi=>by rw[hmm];split<;>omega
  have hex:∀i,i<len→∃y:α×List Value,y.2.length=k∧R w y.2 y.1∧∀(j:Nat) (u:Value),y.2[j]? = some u→w.cell? ((a.add (i*k)).add j)=some u:=by
   intro i hi;obtain⟨cs',hc,hr⟩:=hel i (hlm i hi);rw[hk] at hc;obtain⟨y,hy⟩:=h H enc w n cs' _ hr;obtain⟨h1,h2⟩:=cells_of_cells? hc;exact⟨(y,cs'),h1,hy,h2⟩
  by_cases hlen:len=0
  ·subst hlen;exact⟨[],_,rfl,some a,cap,rfl,by simp,hm,(fun h=>by cases h),fun h=>absurd rfl h⟩
  ·obtain⟨y0,_⟩:=hex 0 (by omega)
   haveI:Inhabited (α×List Value):=⟨y0⟩
   obtain⟨f,hf⟩:=Deep.choose_lt hex;refine⟨(List.range len).map fun i=>(f i).1,_,rfl,some a,cap,by simp,by simpa using hl,hm,(fun h=>by cases h),fun _=>?_⟩
   have ha:a=⟨a.block,a.off,none⟩:=by
    obtain⟨h1,_,h3⟩:=hf 0 (by omega);have h4:(f 0).2[0]? = some ((f 0).2[0]'(by omega)):=List.getElem?_eq_getElem _;have h5:=h3 0 _ h4;have h6:(a.add (0*k)).add 0=a:=by simp[Addr.add]
    rw[h6] at h5;exact addr_of_cell h5
   refine⟨a.block,a.off,by rw[←ha],fun i x' hi=>?_⟩
   have hil:i<len:=by
    have:=(List.getElem?_eq_some_iff.1 hi).1;simpa using this
   have hx':x'=(f i).1:=by
    rw[List.getElem?_map,List.getElem?_range hil] at hi;simpa using hi.symm
   subst hx';obtain⟨h1,h2,h3⟩:=hf i hil;refine⟨(f i).2,h1,h2,fun j u hj=>?_⟩;have h4:=h3 j u hj;rw[ha] at h4
   have h5:(Addr.add (Addr.add ⟨a.block,a.off,none⟩ (i*k)) j)=⟨a.block,a.off+i*k+j,none⟩:=by
    rw[Deep.add_add];unfold Addr.add;split
    ·rename_i h0
     have:i*k=0∧j=0:=by simp at h0;omega
     simp[this.1,this.2]
    ·simp[Nat.add_assoc]
   rw[h5] at h4;exact h4
theorem SlAt.rows{α:Type}{k:Nat}{enc:α→List Value}{ok:α→Prop}{w:World}{v:Value}{l:List α}(h:SlAt k (fun _ cs (a:α)=>cs=enc a∧ok a) w v l): RowsAt k enc w v l∧∀x∈l,ok x:=by
 obtain⟨a,cap,rfl,hl,hm,hnil,hx⟩:=h;constructor
 ·refine⟨a,cap,rfl,Nat.le_trans hl hm,fun hne=>?_⟩;obtain⟨b,off,rfl,hc⟩:=hx hne;refine⟨b,off,rfl,fun i x hi j u hu=>?_⟩;obtain⟨cs,_,⟨rfl,_⟩,h2⟩:=hc i x hi;exact h2 j u hu
 ·intro x hxl;obtain⟨b,off,rfl,hc⟩:=hx (by intro e;rw[e] at hxl;cases hxl);obtain⟨i,hi⟩:=List.getElem?_of_mem hxl;obtain⟨cs,_,⟨_,h1⟩,_⟩:=hc i x hi;exact h1
theorem SlAt.nilOr{α:Type}{k:Nat}{R:World→List Value→α→Prop}{w:World}{v:Value}{l:List α}(h:SlAt k R w v l): v = .slice none 0 0∨∃a c,v = .slice (some a) l.length c:=by
 obtain⟨a,cap,rfl,hl,hm,hnil,_⟩:=h
 cases a with
 |none =>
  have h0:=hnil rfl;have:l.length=0:=by omega
  rw[h0,this];exact .inl rfl
 | some a=>exact .inr ⟨a,cap,rfl⟩
theorem Opens.arg{α:Type}{P:Program}{t:TypeId}{R:World→List Value→α→Prop}(h:Opens P t R){H:Type}{enc:TypeId×Value→H}{w:World}{v:Value}{d:DataW H}{ps:List MemPlace}
  (hv:DataW.Trod enc P w 0 (fun _=>true) true t v d ps):∃a,R w v.cells.toList a :=
 let ⟨fuel,hf⟩:=hv;h H enc w fuel _ _ hf
theorem cells_slice{t e:TypeId}{P:Program}{w:World}{r:Reach}{b:Nat}{v u:Value}(ht:P.underlying t=some (.slice e))(hv:Value.okWide P w r b t v)(h:v.cells.toList=[u]): v=u:=by
 obtain⟨a,len,cap,rfl⟩:=okWide_slice ht hv;simpa [Value.cells] using h
theorem cells_string{t:TypeId}{P:Program}{w:World}{r:Reach}{b:Nat}{v u:Value}(ht:P.underlying t=some .string)(hv:Value.okWide P w r b t v)(h:v.cells.toList=[u]): v=u:=by
 obtain⟨s,rfl⟩:=okWide_string ht hv;simpa [Value.cells] using h
theorem cells_int{t:TypeId}{k:IntKind}{P:Program}{w:World}{r:Reach}{b:Nat}{v u:Value}(ht:P.underlying t=some (.int k))(hv:Value.okWide P w r b t v)(h:v.cells.toList=[u]): v=u:=by
 obtain⟨n,rfl⟩:=okWide_int ht hv;simpa [Value.cells] using h
theorem cells_agg{t:TypeId}{fs:Array Field}{P:Program}{w:World}{r:Reach}{b:Nat}{v:Value}{cs:List Value}(ht:P.underlying t=some (.struct fs))(hv:Value.okWide P w r b t v)(h:v.cells.toList=cs): v = .agg cs.toArray:=by
 obtain⟨c,rfl,_⟩:=okWide_struct ht hv;subst h;simp[Value.cells]
theorem TrodAll.below{H:Type}{enc:TypeId×Value→H}{P:Program}(hl:laidOutB P=true){W W':World}(hb:Below W.heap.size W W'): ∀(ts:List TypeId) (vs:List Value) (ds:List (DataW H)) (ps:List MemPlace),
  (∀t∈ts,P.readableRec t=true∧t<P.types.size)→(∀p∈ps,p.block<W.heap.size)→DataW.TrodAll enc P W 0 (fun _=>true) true ts vs ds ps→DataW.TrodAll enc P W' 0 (fun b=>decide (b<W.heap.size)) true ts vs ds ps
 | [],[],[],ps,_,_,h=>h
 |t::ts,v::vs,d::ds,ps,hr,hlt,h=>by
  obtain⟨p,q,h1,h2,rfl⟩:=h;refine⟨p,q,Below.trod hl (hr t List.mem_cons_self).1 (hr t List.mem_cons_self).2 h1 hb (fun x hx=>hlt x (List.mem_append_left _ hx)),?_,rfl⟩
  exact TrodAll.below hl hb ts vs ds q (fun t' ht=>hr t' (List.mem_cons_of_mem _ ht)) (fun x hx=>hlt x (List.mem_append_right _ hx)) h2
 | [],[],_::_,_,_,_,h=>h.elim
 | [],_::_,_,_,_,_,h=>h.elim
 | _::_,[],_,_,_,_,h=>h.elim
 | _::_,_::_,[],_,_,_,h=>h.elim
theorem law_post{H:Type}{enc:TypeId×Value→H}{P:Program}{f:Func}{s:ChangeSpec}{W W':World}{args:Array Value}{ds gs:List (DataW H)}{before:List MemPlace}{tb:TypeId}
  (hl:laidOutB P=true) (hr:f.params.toList.all (fun t=>P.readableRec t&&decide (t<P.types.size))=true) (hv:s.vars=[]) (hrt:f.resultTypes=#[tb]) (htb:P.underlying tb=some .bool)
  (hW:DataW.Whole enc P f.params.toList s.vars false W args.toList ds gs before) (hfn:∀gs,gs=[]→s.fn H (ds++gs)={ results:=[.lit (.bool true)],args:=ds }) (hg:Grew W W') :
  s.post enc P f false true false false W args (.bool true) W':=by
 have hW':=hW;obtain⟨p,q,hA,hV,rfl,hfz,hnd⟩:=hW;have hlt:∀x∈p++q,x.block<W.heap.size:=fun x hx=>hW'.lt x hx
 rw[hv] at hV;obtain⟨rfl,rfl⟩:=trodVars_none hV;have e:=hfn [] rfl;refine⟨ds,[],p++[],[],p,[],hW',?_,?_,?_,?_,fun h=>by cases h⟩
 ·rw[e,hrt];exact⟨[],[],shut_bool htb true,rfl,rfl⟩
 ·rw[e];exact TrodAll.below hl hg.below _ _ _ _ (fun t ht=>by simpa using List.all_eq_true.1 hr t ht) (fun x hx=>hlt x (List.mem_append_left _ hx)) hA
 ·rw[e,hv];rfl
 ·exact hg.below.frame _
theorem laidMet_tail{P:Program}{x:String×DataW Unit}{r:List (String×DataW Unit)}{w:World}(h:laidMet P (x::r) w): laidMet P r w:=by
 obtain⟨ps,hv,hn,hc⟩:=h;obtain⟨g,t,cs,fuel,p,q,_,_,_,_,hr,rfl⟩:=hv;exact⟨q,hr,(List.nodup_append.1 hn).2.1,fun b off hm=>hc b off (List.mem_append_right _ hm)⟩
def litCell:DataW Unit→Value
 | .lit x=>x.value
 | _=>undef
def tabCells:DataW Unit→Array Value
 | .agg l=>(l.map litCell).toArray
 | _=>#[]
def tabCells2:DataW Unit→Array Value
 | .agg l=>(l.flatMap fun d=>(tabCells d).toList).toArray
 | _=>#[]
noncomputable def layBlocks(w:World): List (Nat×Array Value)→World
 | []=>w
 | (g,cs)::l=>layBlocks { w with heap:=w.heap.modify g fun
   | .cells _ t frozen=>.cells cs t frozen
   | o=>o } l
end Go
namespace Go
open Go.RowKit
section
variable {α:Type} {base:Nat} {e:TypeId} {k:Nat} {enc:α→List Value} {w w' w0 W W':World} {v:Value} {l:List α}
theorem OwnAt.cells{b n cap:Nat}(h:OwnAt base e k enc w (.slice (some ⟨b,0,none⟩) n cap) l): n=l.length∧base≤b∧l.length≤cap∧cap≤maxLen∧∃cur,w.heap[b]? = some (.cells cur e)∧cur.size=cap*k∧cur.toList.take (l.length*k)=l.flatMap enc:=by
 obtain⟨h1,h2⟩:=h;rcases h2 with ⟨h,_⟩|⟨g,cap',cur,hv,hb,hh,hc,hm,hs,ht⟩
 ·cases h
 ·cases hv;exact⟨rfl,hb,hc,hm,cur,hh,hs,ht⟩
theorem OwnAt.of_cells{b n cap:Nat}{cur:Array Value}(henc:∀x,(enc x).length=k)(hn:n=l.length)(hb:base≤b)(hc:l.length≤cap)(hm:cap≤maxLen)(hh:w.heap[b]? = some (.cells cur e))(hs:cur.size=cap*k)(ht:∀i,i<l.length*k→cur[i]? = (l.flatMap enc)[i]?): OwnAt base e k enc w (.slice (some ⟨b,0,none⟩) n cap) l:=by
 subst hn;refine⟨flat_length henc l,.inr ⟨b,cap,cur,rfl,hb,hh,hc,hm,hs,?_⟩⟩;have hle:l.length*k≤cap*k:=Nat.mul_le_mul_right k hc;refine List.ext_getElem? fun i=>?_
 rw[List.getElem?_take];by_cases hi:i<l.length*k
 ·rw[if_pos hi,←ht i hi];simp
 ·rw[if_neg hi,List.getElem?_eq_none];rw[flat_length henc l];omega
theorem OwnAt.get{b n cap:Nat}{cur:Array Value}(h:OwnAt base e k enc w (.slice (some ⟨b,0,none⟩) n cap) l)(hh:w.heap[b]? = some (.cells cur e)): ∀i,i<l.length*k→cur[i]? = (l.flatMap enc)[i]? :=by
 obtain⟨_,_,_,_,cur',hh',_,ht⟩:=h.cells;rw[hh] at hh';cases hh';intro i hi;rw[←ht,List.getElem?_take,if_pos hi];simp
theorem OwnAt.past{b n cap:Nat}(henc:∀x,(enc x).length=k)(h:OwnAt base e k enc W (.slice (some ⟨b,0,none⟩) n cap) l){cur cur':Array Value}(hh:W.heap[b]? = some (.cells cur e))(hh':W'.heap[b]? = some (.cells cur' e))(hs:cur'.size=cur.size)
  (ho:∀i,i<l.length*k→cur'[i]? = cur[i]?):OwnAt base e k enc W' (.slice (some ⟨b,0,none⟩) n cap) l:=by
 obtain⟨h1,h2,h3,h4,cur2,h5,h6,-⟩:=h.cells;rw[hh] at h5;cases h5;exact OwnAt.of_cells henc h1 h2 h3 h4 hh' (hs.trans h6) fun i hi=>by rw[ho i hi,OwnAt.get h hh i hi]
end
end Go
namespace Go.Proofs.YtipgfjihdglocaaGreat
open Go.RowKit
theorem own_add{α:Type}{wb W W':World}{t tb:TypeId}{k B o:Nat}{enc:α→List Value}{v v':Value}{l l':List α}{cs:Array Value}(ho:OwnAt wb.heap.size t k enc W v l)(hB:W.heap[B]? = some (.cells cs tb))(hb:wb.heap.size≤B)(hne:tb≠t)(hA:Appended wb t k enc W v l' v' W'):
  Grew wb (W'.setCell ⟨B,o,none⟩ v')∧(W'.setCell ⟨B,o,none⟩ v').heap[B]? = some (.cells (cs.setIfInBounds o v') tb)∧OwnAt wb.heap.size t k enc (W'.setCell ⟨B,o,none⟩ v') v' l':=by
 obtain⟨a1,a2,a3,a4,a5⟩:=hA;have h1:W'.heap[B]? = some (.cells cs tb):=(a4 B (heap_lt hB) (OwnAt.other ho hB hne)).trans hB;exact⟨a1.set hb _,set_self h1,OwnAt.same a2 fun b hb=>set_other fun e=>OwnAt.other a2 h1 hne (e▸hb)⟩
theorem own_cells{α:Type}{wb W W':World}{t tb:TypeId}{base k B:Nat}{enc:α→List Value}{v v':Value}{l l':List α}{cs:Array Value}(ho:OwnAt base t k enc W v l)(hB:W.heap[B]? = some (.cells cs tb))(hne:tb≠t)(hA:Appended wb t k enc W v l' v' W'):
  W'.heap[B]? = some (.cells cs tb):=by
 obtain⟨a1,a2,a3,a4,a5⟩:=hA;exact(a4 B (heap_lt hB) (OwnAt.other ho hB hne)).trans hB
theorem Keep.cells{b:Nat}{W W':World}{Z:Nat}{cs:Array Value}{t:TypeId}(hk:Keep b W W')(hc:W.heap[Z]? = some (.cells cs t))(hb:∀c t f,W.heap[b]? ≠ some (.cells c t f)): W'.heap[Z]? = some (.cells cs t):=by
 rw[hk.2 Z (heap_lt hc) fun e=>hb _ _ _ (e▸hc)];exact hc
theorem OwnAt.keepC{α:Type}{base b:Nat}{e:TypeId}{k:Nat}{enc:α→List Value}{w w':World}{v:Value}{l:List α}(h:OwnAt base e k enc w v l)(hk:Keep b w w')(hb:∀c t f,w.heap[b]? ≠ some (.cells c t f)): OwnAt base e k enc w' v l :=
 OwnAt.same h fun q hq=>by
  obtain⟨-,cs,hc⟩:=OwnAt.block h hq;rw[hk.cells hc hb,hc]
theorem bodyPost_mono{P:Program}{fn:Func}{R R':Ending→World→Prop}(h:∀e w,R e w→R' e w)(e:Exit)(a:Act)(w:World)(q:bodyPost P fn R e a w): bodyPost P fn R' e a w:=by
 cases e with
 | normal=>exact⟨q.1,let ⟨v,x,y⟩:=q.2;⟨v,x,h _ _ y⟩⟩
 | ret=>exact⟨q.1,let ⟨v,x,y⟩:=q.2;⟨v,x,h _ _ y⟩⟩
 | panic _=>exact⟨q.1,h _ _ q.2⟩
 | outgrown=>exact h _ _ q
 | _=>exact q
end Go.Proofs.YtipgfjihdglocaaGreat
