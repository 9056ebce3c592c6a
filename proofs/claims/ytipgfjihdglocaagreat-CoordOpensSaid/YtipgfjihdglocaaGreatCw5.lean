import Derived.Test.YtipgfjihdglocaaGreatCw3
import Derived.Test.YtipgfjihdglocaaGreatCw2
set_option linter.unusedSimpArgs false
set_option linter.unusedVariables false
set_option maxRecDepth 100000
set_option maxHeartbeats 64000000
namespace Vm
open Ga
abbrev Ins:=Int×Int
structure St where
 out:List Val
 c0:Val
 c1:Val
 steps:Int
 pc:Nat
 stack:List Val
def cellAt(s:St)(a:Int): Val:=if a=0 then s.c0 else s.c1
def setCellAt(s:St)(a:Int)(v:Val): St:=if a=0 then { s with c0:=v } else { s with c1:=v }
def top1(s:St): Val:=s.stack.getLastD (0,0)
def pop1(s:St): St:={ s with stack:=s.stack.dropLast }
def push1(s:St)(v:Val): St:={ s with stack:=s.stack++[v] }
def two(op:Int)(x y:Val): Val :=
 if op=6 then addV (addV (0,0) x) y else if op=7 then subV x y else if op=8 then mulV (mulV (1,0) x) y else (if lessV x y then 1 else 0,0)
def jump1(s:St)(k:Int): St:={ s with pc:=s.pc+k.toNat }
def emit1(s:St)(v:Val): St:={ s with out:=s.out++[v] }
def effect(inp:Val)(i:Ins)(s:St): St :=
 if i.1=1 then push1 s (i.2,0)
 else if i.1=2 then push1 s (0,i.2)
 else if i.1=3 then push1 s inp
 else if i.1=4 then push1 s (cellAt s i.2)
 else if i.1=5 then setCellAt (pop1 s) i.2 (top1 s)
 else if i.1=15 then (if zeroV (top1 s) then jump1 (pop1 s) i.2 else pop1 s)
 else if i.1=16 then jump1 s i.2
 else if i.1=6∨i.1=7∨i.1=8∨i.1=17 then push1 (pop1 (pop1 s)) (two i.1 (top1 (pop1 s)) (top1 s))
 else if i.1=9 then push1 (pop1 s) (conjV (top1 s))
 else if i.1=10 then push1 (pop1 s) (turnV (top1 s))
 else if i.1=11 then push1 (push1 (pop1 s) (top1 s)) (top1 s)
 else if i.1=12 then push1 (push1 (pop1 (pop1 s)) (top1 s)) (top1 (pop1 s))
 else if i.1=14 then emit1 (pop1 s) (top1 s)
 else pop1 s
def fetch(s:St): St:={ s with pc:=s.pc+1,steps:=s.steps+1 }
def exec(p:List Ins)(inp:Val): Nat→St→St
 | 0,s=>s
 |f+1,s=>match p[s.pc]? with
  | none=>s
  | some i=>if i.1=0 then fetch s else exec p inp f (effect inp i (fetch s))
def takes(op:Int): Nat:=if op=5∨op=13∨op=14∨op=15∨op=9∨op=10∨op=11 then 1 else if op=6∨op=7∨op=8∨op=17∨op=12 then 2 else 0
def leaves(op:Int): Nat:=if op=1∨op=2∨op=3∨op=4∨op=6∨op=7∨op=8∨op=17∨op=9∨op=10 then 1 else if op=11∨op=12 then 2 else 0
structure Cst where
 depth:List Int
 emits:List Int
 mx:Int
 em:Int
 u0:Bool
 u1:Bool
def raise(s:Cst)(d e:Int): Cst:={ s with mx:=max s.mx d,em:=max s.em e }
def come(n:Nat)(s:Cst)(k:Nat)(d e:Int): Cst×Bool :=
 if 8<d∨4<e then (raise s d e,false)
 else if k=n then (raise s d e,true)
 else if s.depth.getD k (-1) ≠ -1∧s.depth.getD k (-1)≠d then (raise s d e,false)
 else ({ raise s d e with depth:=s.depth.set k d,emits:=s.emits.set k (max (s.emits.getD k 0) e) },true)
def next(p:List Ins)(k:Nat)(i:Ins): List Nat :=
 if i.1=0 then [] else if i.1=16 then [min (k+1+i.2.toNat) p.length] else if i.1=15 then [k+1,min (k+1+i.2.toNat) p.length] else [k+1]
def uses(s:Cst)(i:Ins): Cst:=if i.1=4∨i.1=5 then (if i.2=0 then { s with u0:=true } else { s with u1:=true }) else s
def comes(n:Nat)(d e:Int): List Nat→Cst→Cst×Bool
 | [],s=>(s,true)
 | k::l,s=>if (come n s k d e).2 then comes n d e l (come n s k d e).1 else ((come n s k d e).1,false)
def stepC(p:List Ins)(s:Cst)(k:Nat)(i:Ins): Cst×Bool :=
 if s.depth.getD k (-1)<takes i.1 then (s,false)
 else comes p.length (s.depth.getD k (-1)-takes i.1+leaves i.1) (s.emits.getD k 0+if i.1=14 then 1 else 0) (next p k i) (uses s i)
def start(n:Nat): Cst:=(come n ⟨List.replicate n (-1),List.replicate n 0,0,0,false,false⟩ 0 0 0).1
def goC(p:List Ins): List Ins→Nat→Cst→Option Cst
 | [],_,s=>some s
 | i::l,k,s=>if s.depth.getD k (-1) ≠ -1 then (if (stepC p s k i).2 then goC p l (k+1) (stepC p s k i).1 else none) else goC p l (k+1) s
def checkC(p:List Ins): Option Cst:=if Co.fitsI p then goC p p 0 (start p.length) else none
def safe(p:List Ins): Bool:=(checkC p).isSome
theorem getD_ne_lt{l:List Int}{j:Nat}(h:l.getD j (-1) ≠ -1): j<l.length:=by
 apply Classical.byContradiction;intro hn;exact h (by rw[List.getD_eq_getElem?_getD,List.getElem?_eq_none (by omega)];rfl)
theorem getD_set_self{l:List Int}{j:Nat}{d:Int}(h:j<l.length): (l.set j d).getD j (-1)=d:=by
 rw[List.getD_eq_getElem?_getD,List.getElem?_set_self h];rfl
theorem getD_set_ne{l:List Int}{j k:Nat}{d:Int}(h:j≠k): (l.set k d).getD j (-1)=l.getD j (-1):=by
 rw[List.getD_eq_getElem?_getD,List.getElem?_set_ne (fun e=>h e.symm),←List.getD_eq_getElem?_getD]
theorem come_len(n:Nat)(s:Cst)(k:Nat)(d e:Int): (come n s k d e).1.depth.length=s.depth.length:=by
 unfold come;split
 ·rfl
 split
 ·rfl
 split
 ·rfl
 ·exact List.length_set ..
theorem come_other{n:Nat}{s:Cst}{k:Nat}{d e:Int}{j:Nat}(h:j≠k): (come n s k d e).1.depth.getD j (-1)=s.depth.getD j (-1):=by
 unfold come;split
 ·rfl
 split
 ·rfl
 split
 ·rfl
 ·exact getD_set_ne h
theorem come_keeps{n:Nat}{s:Cst}{k:Nat}{d e:Int}{j:Nat}(h:s.depth.getD j (-1) ≠ -1): (come n s k d e).1.depth.getD j (-1)=s.depth.getD j (-1):=by
 by_cases hj:j=k
 ·subst hj;unfold come;split
  ·rfl
  split
  ·rfl
  split
  ·rfl
  ·rename_i h1 h2 h3
   have:s.depth.getD j (-1)=d:=Classical.byContradiction fun hne=>h3 ⟨h,hne⟩
   exact(getD_set_self (getD_ne_lt h)).trans this.symm
 ·exact come_other hj
theorem come_sets{n:Nat}{s:Cst}{k:Nat}{d e:Int}(hb:(come n s k d e).2=true)(hk:k<n)(hl:s.depth.length=n): (come n s k d e).1.depth.getD k (-1)=d:=by
 unfold come at hb ⊢;split at hb
 ·cases hb
 split at hb
 ·omega
 split at hb
 ·cases hb
 ·rename_i h1 h2 h3
  rw[if_neg h1,if_neg h2,if_neg h3];exact getD_set_self (by rw[hl];exact hk)
theorem comes_len(n:Nat)(d e:Int): ∀(l:List Nat) (s:Cst),(comes n d e l s).1.depth.length=s.depth.length
 | [],s=>rfl
 |k::l,s=>by
  rw[comes];split
  ·exact(comes_len n d e l _).trans (come_len ..)
  ·exact come_len ..
theorem comes_keeps{n:Nat}{d e:Int}{j:Nat}: ∀(l:List Nat) (s:Cst),s.depth.getD j (-1) ≠ -1→(comes n d e l s).1.depth.getD j (-1)=s.depth.getD j (-1)
 | [],s,_=>rfl
 |k::l,s,h=>by
  rw[comes];split
  ·exact(comes_keeps l _ (by rw[come_keeps h];exact h)).trans (come_keeps h)
  ·exact come_keeps h
theorem comes_low{n:Nat}{d e:Int}{j:Nat}: ∀(l:List Nat) (s:Cst),(∀k∈l,j<k)→(comes n d e l s).1.depth.getD j (-1)=s.depth.getD j (-1)
 | [],s,_=>rfl
 |k::l,s,h=>by
  have hk:=h k (List.mem_cons_self ..);rw[comes];split
  ·exact(comes_low l _ fun a ha=>h a (List.mem_cons_of_mem _ ha)).trans (come_other (by omega))
  ·exact come_other (by omega)
theorem comes_sets{n:Nat}{d e:Int}(hd:d ≠ -1): ∀(l:List Nat) (s:Cst),s.depth.length=n→(comes n d e l s).2=true→∀k∈l,k<n→(comes n d e l s).1.depth.getD k (-1)=d
 | [],s,_,_,k,hk,_=>by cases hk
 |a::l,s,hl,hb,k,hk,hn=>by
  rw[comes] at hb ⊢;split at hb
  ·rename_i ha
   rw[if_pos ha];rcases List.mem_cons.1 hk with e1|e1
   ·subst e1;have:=come_sets ha hn hl;exact(comes_keeps l _ (by rw[this];exact hd)).trans this
   ·exact comes_sets hd l _ ((come_len ..).trans hl) hb k e1 hn
  ·cases hb
theorem uses_depth(s:Cst)(i:Ins): (uses s i).depth=s.depth:=by
 unfold uses;split
 ·split<;>rfl
 ·rfl
theorem stepC_len(p:List Ins)(s:Cst)(k:Nat)(i:Ins): (stepC p s k i).1.depth.length=s.depth.length:=by
 unfold stepC;split
 ·rfl
 ·rw[comes_len,uses_depth]
theorem stepC_keeps{p:List Ins}{s:Cst}{k:Nat}{i:Ins}{j:Nat}(h:s.depth.getD j (-1) ≠ -1): (stepC p s k i).1.depth.getD j (-1)=s.depth.getD j (-1):=by
 unfold stepC;split
 ·rfl
 ·rw[comes_keeps _ _ (by rw[uses_depth];exact h),uses_depth]
theorem next_gt{p:List Ins}{k:Nat}{i:Ins}(hk:k<p.length): ∀a∈next p k i,k<a:=by
 intro a ha;unfold next at ha
 split at ha
 ·cases ha
 split at ha
 ·rw[List.mem_singleton] at ha;omega
 split at ha
 ·rcases List.mem_cons.1 ha with e|e
  ·omega
  ·rw[List.mem_singleton] at e;omega
 ·rw[List.mem_singleton] at ha;omega
theorem stepC_low{p:List Ins}{s:Cst}{k:Nat}{i:Ins}{j:Nat}(hk:k<p.length)(hj:j≤k): (stepC p s k i).1.depth.getD j (-1)=s.depth.getD j (-1):=by
 unfold stepC;split
 ·rfl
 ·rw[comes_low _ _ (fun a ha=>by have:=next_gt hk a ha;omega),uses_depth]
theorem goC_keeps{p:List Ins}{c:Cst}{j:Nat}: ∀(l:List Ins) (k:Nat) (s:Cst),goC p l k s=some c→s.depth.getD j (-1) ≠ -1→c.depth.getD j (-1)=s.depth.getD j (-1)
 | [],_,s,h,_=>by cases h;rfl
 |i::l,k,s,h,hj=>by
  rw[goC] at h;split at h
  ·split at h
   ·exact(goC_keeps l _ _ h (by rw[stepC_keeps hj];exact hj)).trans (stepC_keeps hj)
   ·cases h
  ·exact goC_keeps l _ _ h hj
theorem goC_low{p:List Ins}{c:Cst}{j:Nat}: ∀(l:List Ins) (k:Nat) (s:Cst),goC p l k s=some c→k+l.length=p.length→j<k→c.depth.getD j (-1)=s.depth.getD j (-1)
 | [],_,s,h,_,_=>by cases h;rfl
 |i::l,k,s,h,hl,hj=>by
  rw[List.length_cons] at hl;rw[goC] at h;split at h
  ·split at h
   ·exact(goC_low l _ _ h (by omega) (by omega)).trans (stepC_low (by omega) (by omega))
   ·cases h
  ·exact goC_low l _ _ h (by omega) (by omega)
def Sound(p:List Ins)(c:Cst)(k:Nat)(i:Ins): Prop :=
 c.depth.getD k (-1) ≠ -1→(takes i.1:Int)≤c.depth.getD k (-1)∧∀a∈next p k i,a<p.length→c.depth.getD a (-1)=c.depth.getD k (-1)-takes i.1+leaves i.1
theorem goC_sound{p:List Ins}{c:Cst}: ∀(l:List Ins) (k:Nat) (s:Cst),goC p l k s=some c→k+l.length=p.length→s.depth.length=p.length→∀j i,l[j]? = some i→Sound p c (k+j) i
 | [],_,s,_,_,_,j,i,hj=>by simp at hj
 |i0::l,k,s,h,hl,hd,j,i,hj=>by
  rw[List.length_cons] at hl;rw[goC] at h
  cases j with
  |succ j =>
   rw[List.getElem?_cons_succ] at hj;have e:k+(j+1)=k+1+j:=by omega
   rw[e];split at h
   ·split at h
    ·exact goC_sound l _ _ h (by omega) ((stepC_len ..).trans hd) j i hj
    ·cases h
   ·exact goC_sound l _ _ h (by omega) hd j i hj
  |zero =>
   rw[List.getElem?_cons_zero] at hj;cases hj;intro hk;rw[Nat.add_zero] at hk ⊢;split at h
   ·rename_i hs
    split at h
    ·rename_i hb
     have e1:c.depth.getD k (-1)=s.depth.getD k (-1):=(goC_low l _ _ h (by omega) (by omega)).trans (stepC_low (by omega) (by omega));rw[e1];unfold stepC at hb;split at hb
     ·cases hb
     ·rename_i ht
      refine⟨by omega,fun a ha hal=>?_⟩;have hd':s.depth.getD k (-1)-takes i0.1+leaves i0.1 ≠ -1:=by omega
      have:=comes_sets hd' (next p k i0) (uses s i0) (by rw[uses_depth];exact hd) hb a ha hal
      have e2:(stepC p s k i0).1.depth.getD a (-1)=s.depth.getD k (-1)-takes i0.1+leaves i0.1:=by
       unfold stepC;rw[if_neg ht];exact this
      exact(goC_keeps l _ _ h (by rw[e2];exact hd')).trans e2
    ·cases h
   ·rename_i hs
    exact absurd ((goC_low l _ _ h (by omega) (by omega)).trans (Classical.byContradiction fun x=>hs x)) hk
theorem start_len(n:Nat): (start n).depth.length=n:=(come_len ..).trans (List.length_replicate ..)
theorem checkC_sound{p:List Ins}{c:Cst}(h:checkC p=some c){k:Nat}{i:Ins}(hi:p[k]? = some i): Sound p c k i:=by
 unfold checkC at h;split at h
 ·have:=goC_sound p 0 _ h (by omega) (start_len _) k i hi
  rwa [Nat.zero_add] at this
 ·cases h
theorem checkC_zero{p:List Ins}{c:Cst}(h:checkC p=some c)(hp:0<p.length): c.depth.getD 0 (-1)=0:=by
 unfold checkC at h;split at h
 ·have e:(start p.length).depth.getD 0 (-1)=0:=by
   unfold start come;rw[if_neg (by omega),if_neg (by omega),if_neg ?_]
   ·exact getD_set_self (by rw[List.length_replicate];exact hp)
   ·intro hh;refine hh.1 ?_;rw[List.getD_eq_getElem?_getD,List.getElem?_replicate];split<;>rfl
  exact(goC_keeps p 0 _ h (by rw[e];omega)).trans e
 ·cases h
def Good(p:List Ins)(c:Cst)(s:St): Prop:=s.pc<p.length→c.depth.getD s.pc (-1)=s.stack.length
theorem push1_pc(s v): (push1 s v).pc=s.pc:=rfl
theorem pop1_pc(s): (pop1 s).pc=s.pc:=rfl
theorem emit1_pc(s v): (emit1 s v).pc=s.pc:=rfl
theorem jump1_pc(s k): (jump1 s k).pc=s.pc+k.toNat:=rfl
theorem setCellAt_pc(s a v): (setCellAt s a v).pc=s.pc:=by unfold setCellAt;split<;>rfl
theorem push1_len(s v): (push1 s v).stack.length=s.stack.length+1:=by unfold push1;simp
theorem pop1_len(s): (pop1 s).stack.length=s.stack.length-1:=by unfold pop1;simp
theorem emit1_len(s v): (emit1 s v).stack.length=s.stack.length:=rfl
theorem jump1_len(s k): (jump1 s k).stack.length=s.stack.length:=rfl
theorem setCellAt_len(s a v): (setCellAt s a v).stack.length=s.stack.length:=by unfold setCellAt;split<;>rfl
theorem fetch_pc(s:St): (fetch s).pc=s.pc+1:=rfl
theorem fetch_len(s:St): (fetch s).stack.length=s.stack.length:=rfl
theorem effect_len{s:St}{o a:Int}(ho:1≤o∧o≤17)(inp:Val)(ht:takes o≤s.stack.length):
  ((effect inp (o,a) s).stack.length:Int)=s.stack.length-takes o+leaves o:=by
 have hc:o=1∨o=2∨o=3∨o=4∨o=5∨o=6∨o=7∨o=8∨o=9∨o=10∨o=11∨o=12∨o=13∨o=14∨o=15∨o=16∨o=17:=by omega
 rcases hc with rfl|rfl|rfl|rfl|rfl|rfl|rfl|rfl|rfl|rfl|rfl|rfl|rfl|rfl|rfl|rfl|rfl <;>
  simp[effect,takes,leaves,push1_len,pop1_len,emit1_len,jump1_len,setCellAt_len] at ht ⊢ <;> first|omega|(split<;>simp[jump1_len,pop1_len]<;>omega)
theorem effect_pc{s:St}{o a:Int}(ho:1≤o∧o≤17)(inp:Val):
  (effect inp (o,a) s).pc=(if o=16 then s.pc+a.toNat else if o=15 then (if zeroV (top1 s) then s.pc+a.toNat else s.pc) else s.pc):=by
 have hc:o=1∨o=2∨o=3∨o=4∨o=5∨o=6∨o=7∨o=8∨o=9∨o=10∨o=11∨o=12∨o=13∨o=14∨o=15∨o=16∨o=17:=by omega
 rcases hc with rfl|rfl|rfl|rfl|rfl|rfl|rfl|rfl|rfl|rfl|rfl|rfl|rfl|rfl|rfl|rfl|rfl <;>
  simp[effect,push1_pc,pop1_pc,emit1_pc,jump1_pc,setCellAt_pc]<;>(split<;>rfl)
theorem good_effect{p:List Ins}{c:Cst}(h:checkC p=some c){s:St}(hg:Good p c s){o a:Int}(hi:p[s.pc]? = some (o,a))(hop:1≤o∧o≤17)(inp:Val):
  takes o≤s.stack.length∧Good p c (effect inp (o,a) (fetch s)):=by
 have hlt:s.pc<p.length:=by
  rcases Nat.lt_or_ge s.pc p.length with x|x
  ·exact x
  ·rw[List.getElem?_eq_none x] at hi;cases hi
 have e:=hg hlt;obtain⟨ht,hn⟩:=checkC_sound h hi (by rw[e];omega);rw[e] at ht hn;simp only at ht hn;refine⟨by omega,?_⟩;have ht':takes o≤s.stack.length:=by omega
 have hlen:=effect_len (s:=fetch s) (a:=a) hop inp ht';rw[fetch_len] at hlen
 have hpc:(effect inp (o,a) (fetch s)).pc<p.length→(effect inp (o,a) (fetch s)).pc∈next p s.pc (o,a):=by
  rw[effect_pc hop,fetch_pc];unfold next
  rw[if_neg (show ¬o=0 by omega)];by_cases h16:o=16
  ·rw[if_pos h16,if_pos h16,List.mem_singleton];show _→_=min (s.pc+1+a.toNat) p.length;omega
  rw[if_neg h16,if_neg h16];by_cases h15:o=15
  ·rw[if_pos h15,if_pos h15,List.mem_cons,List.mem_singleton];show _→_∨_=min (s.pc+1+a.toNat) p.length;split
   ·intro x;right;omega
   ·intro x;left;rfl
  ·rw[if_neg h15,if_neg h15,List.mem_singleton];intro _;rfl
 intro hl;rw[hn _ (hpc hl) hl,hlen]
end Vm
namespace Tab
open Ga
structure En where
 node:Int
 key:Int
 c0:Val
 c1:Val
def num(e:En): Int:=e.node*64+e.key
def nz(e:En): Bool:= !(e.c0==(0,0)&&e.c1==(0,0))
def setT(m:List En)(x:En): List En:=if nz x then x::m.filter (fun y=>num y != num x) else m.filter (fun y=>num y != num x)
def newT(l:List En): List En:=l.foldl setT []
theorem num_inj{a b:En}(ha:0≤a.key∧a.key<64)(hb:0≤b.key∧b.key<64)(h:num a=num b): a.node=b.node∧a.key=b.key:=by
 unfold num at h;omega
structure Ok (l m:List En):Prop where
 un:m.Pairwise fun a b=>num a≠num b
 sub:∀x∈m,x∈l
 nz:∀x∈m,nz x=true
theorem Ok.set{l m:List En}(h:Ok l m)(x:En): Ok (l++[x]) (setT m x):=by
 have hf:∀y∈m.filter (fun y=>num y != num x),y∈m∧num y≠num x:=fun y hy=>by
  obtain⟨h1,h2⟩:=List.mem_filter.1 hy;exact⟨h1,by simpa using h2⟩
 unfold setT;split
 ·rename_i hn
  refine⟨List.pairwise_cons.2 ⟨fun y hy=>fun e=>(hf y hy).2 e.symm,h.un.filter _⟩,fun y hy=>?_,fun y hy=>?_⟩
  ·rcases List.mem_cons.1 hy with rfl|h1
   ·exact List.mem_append_right _ (List.mem_singleton.2 rfl)
   ·exact List.mem_append_left _ (h.sub y (hf y h1).1)
  ·rcases List.mem_cons.1 hy with rfl|h1
   ·exact hn
   ·exact h.nz y (hf y h1).1
 ·exact⟨h.un.filter _,fun y hy=>List.mem_append_left _ (h.sub y (hf y hy).1),fun y hy=>h.nz y (hf y hy).1⟩
theorem newT_snoc(l:List En)(x:En): newT (l++[x])=setT (newT l) x:=by
 unfold newT;rw[List.foldl_append];rfl
theorem newT_ok(l:List En): Ok l (newT l):=by
 suffices h:∀(r:List En),Ok r.reverse (newT r.reverse) by
  have:=h l.reverse
  rwa [List.reverse_reverse] at this
 intro r
 induction r with
 | nil=>exact⟨List.Pairwise.nil,fun x hx=>(by cases hx),fun x hx=>(by cases hx)⟩
 |cons x r ih =>
  rw[List.reverse_cons,newT_snoc];exact ih.set x
theorem newT_rev(l:List En)(hs:l.Pairwise fun a b=>num a<num b)(hn:∀x∈l,nz x=true): newT l=l.reverse:=by
 suffices h:∀(r:List En),(r.reverse.Pairwise fun a b=>num a<num b)→(∀x∈r,nz x=true)→newT r.reverse=r by
  have:=h l.reverse (by rwa [List.reverse_reverse]) fun x hx=>hn x (List.mem_reverse.1 hx)
  rwa [List.reverse_reverse] at this
 intro r
 induction r with
 | nil=>intro _ _;rfl
 |cons x r ih =>
  intro hs hn;rw[List.reverse_cons] at hs ⊢;obtain⟨h1,_,h3⟩:=List.pairwise_append.1 hs;rw[newT_snoc,ih h1 fun y hy=>hn y (List.mem_cons_of_mem _ hy)];unfold setT;rw[if_pos (hn x (List.mem_cons_self ..))]
  congr 1
  refine List.filter_eq_self.2 fun y hy=>?_
  have:=h3 y (List.mem_reverse.2 hy) x (List.mem_singleton.2 rfl);have:num y≠num x:=by omega
  simpa using this
theorem all_iff{l s:List En}(hp:s.Perm (newT l))(hs:s.Pairwise fun a b=>num a≤num b): s=l↔(l.Pairwise fun a b=>num a<num b)∧∀x∈l,nz x=true:=by
 have ho:=newT_ok l;constructor
 ·rintro rfl;have hu:s.Pairwise fun a b=>num a≠num b:=(hp.pairwise_iff (fun h=>fun e=>h e.symm)).2 ho.un
  refine⟨(hs.and hu).imp fun h=>by omega,fun x hx=>ho.nz x (hp.mem_iff.1 hx)⟩
 ·rintro⟨h1,h2⟩;rw[newT_rev l h1 h2] at hp;have hp2:=hp.trans (List.reverse_perm l);refine List.Perm.eq_of_pairwise (le:=fun a b=>num a≤num b) (fun a b ha hb e1 e2=>?_) hs (h1.imp fun h=>by omega) hp2;have ha':=hp2.mem_iff.1 ha;obtain⟨i,hi,rfl⟩:=List.mem_iff_getElem.1 ha';obtain⟨j,hj,rfl⟩:=List.mem_iff_getElem.1 hb;have hpw:=List.pairwise_iff_getElem.1 h1;rcases Nat.lt_trichotomy i j with h3|h3|h3
  ·have:=hpw i j hi hj h3;omega
  ·subst h3;rfl
  ·have:=hpw j i hj hi h3;omega
end Tab
namespace Gr
structure Nd where
 id:Int
 kind:Int
 frm:List Int
 prog:List Vm.Ins
 par:Int
 route:List Int
def find(l:List Nd)(id:Int): Option Nat:=l.findIdx? fun n=>n.id==id
def above(l:List Nd)(fr to:Int): Nat→Bool
 | 0=>false
 |k+1=>match (find l fr).bind fun i=>l[i]? with
  | none=>false
  | some n=>n.frm.any fun f=>f==to||above l f to k
def Edge(l:List Nd)(x y:Int): Prop:=∃n,((find l x).bind fun i=>l[i]?)=some n∧y∈n.frm
theorem above_succ{l:List Nd}{x z:Int}{k:Nat}: above l x z (k+1)=true↔∃y,Edge l x y∧(y=z∨above l y z k=true):=by
 rw[above]
 cases h:(find l x).bind fun i=>l[i]? with
 |none =>
  refine⟨fun h2=>by simp at h2,?_⟩;rintro⟨y,⟨n,hn,_⟩,_⟩;rw[h] at hn
  cases hn
 |some n =>
  simp only[List.any_eq_true,Bool.or_eq_true,beq_iff_eq];constructor
  ·rintro⟨y,hy,h2⟩;exact⟨y,⟨n,h,hy⟩,h2⟩
  ·rintro⟨y,⟨m,hm,hy⟩,h2⟩;rw[h] at hm;cases hm;exact⟨y,hy,h2⟩
theorem above_mono{l:List Nd}: ∀(k:Nat) {x z:Int},above l x z k=true→above l x z (k+1)=true
 | 0,x,z,h=>by simp[above] at h
 |k+1,x,z,h=>by
  obtain⟨y,hy,h2⟩:=above_succ.1 h;exact above_succ.2 ⟨y,hy,h2.imp id fun h3=>above_mono k h3⟩
theorem above_le{l:List Nd}{x z:Int}{j k:Nat}(h:j≤k)(ha:above l x z j=true): above l x z k=true:=by
 induction k with
 | zero=>rw[show j=0 by omega] at ha;exact ha
 |succ k ih =>
  rcases Nat.lt_or_ge k j with h1|h1
  ·rw[show k+1=j by omega];exact ha
  ·exact above_mono k (ih h1)
def Way(l:List Nd)(p:Nat→Int)(k:Nat): Prop:=∀i,i<k→Edge l (p i) (p (i+1))
theorem Way.above{l:List Nd}{p:Nat→Int}{k:Nat}(h:Way l p k): ∀(d i:Nat),i+d+1≤k→above l (p i) (p (i+d+1)) (d+1)=true
 | 0,i,hk=>above_succ.2 ⟨_,h i (by omega),.inl rfl⟩
 |d+1,i,hk=>by
  have:=Way.above h d (i+1) (by omega);rw[show i+1+d+1=i+(d+1)+1 by omega] at this;exact above_succ.2 ⟨_,h i (by omega),.inr this⟩
def nextS(l:List Nd)(out:List Int): Option Int:=(l.find? fun n=> !out.contains n.id&&n.frm.all fun f=>out.contains f).map (·.id)
def sortG(l:List Nd): Nat→List Int→List Int
 | 0,out=>out
 |k+1,out=>match nextS l out with
  | none=>out
  | some id=>sortG l k (out++[id])
def ids(l:List Nd): List Int:=l.map (·.id)
structure Ord (l:List Nd) (out:List Int):Prop where
 nd:out.Nodup
 sub:∀x∈out,x∈ids l
 dn:∀(i:Nat) (x:Int),out[i]? = some x→∃n∈l,n.id=x∧∀f∈n.frm,∃j,j<i∧out[j]? = some f
theorem Ord.nil(l:List Nd): Ord l []:=⟨List.nodup_nil,fun x hx=>(by cases hx),fun i x h=>by simp at h⟩
theorem nextS_some{l:List Nd}{out:List Int}{x:Int}(h:nextS l out=some x): ∃n∈l,n.id=x∧x∉out∧∀f∈n.frm,f∈out:=by
 unfold nextS at h;rw[Option.map_eq_some_iff] at h;obtain⟨n,hn,rfl⟩:=h;have h1:=List.find?_some hn;have h2:=List.mem_of_find?_eq_some hn;simp only[Bool.and_eq_true,Bool.not_eq_true',List.all_eq_true,List.contains_eq_mem,decide_eq_false_iff_not,decide_eq_true_eq] at h1;exact⟨n,h2,rfl,h1.1,h1.2⟩
theorem nextS_none{l:List Nd}{out:List Int}(h:nextS l out=none): ∀n∈l,n.id∉out→∃f∈n.frm,f∉out:=by
 intro n hn hout;unfold nextS at h;rw[Option.map_eq_none_iff,List.find?_eq_none] at h;have h1:=h n hn;simp only[Bool.and_eq_true,Bool.not_eq_true',List.contains_eq_mem,decide_eq_false_iff_not,List.all_eq_true,decide_eq_true_eq,not_and,Classical.not_forall] at h1;obtain⟨f,hf,h2⟩:=h1 hout;exact⟨f,hf,h2⟩
theorem Ord.step{l:List Nd}{out:List Int}(h:Ord l out){x:Int}(hx:nextS l out=some x): Ord l (out++[x]):=by
 obtain⟨n,hn,rfl,hno,hall⟩:=nextS_some hx;refine⟨List.nodup_append.2 ⟨h.nd,by simp,fun a ha b hb=>?_⟩,fun x hx=>?_,fun i x hi=>?_⟩
 ·rw[List.mem_singleton] at hb;subst hb;rintro rfl;exact hno ha
 ·rcases List.mem_append.1 hx with h1|h1
  ·exact h.sub x h1
  ·rw[List.mem_singleton] at h1;subst h1;exact List.mem_map.2 ⟨n,hn,rfl⟩
 ·rcases Nat.lt_or_ge i out.length with h1|h1
  ·rw[List.getElem?_append_left h1] at hi;obtain⟨m,hm,hid,hf⟩:=h.dn i x hi;refine⟨m,hm,hid,fun f hff=>?_⟩;obtain⟨j,hj,h2⟩:=hf f hff;exact⟨j,hj,by rw[List.getElem?_append_left (by omega)];exact h2⟩
  ·rw[List.getElem?_append_right h1] at hi
   have hi0:i-out.length=0:=by
    rcases Nat.eq_zero_or_pos (i-out.length) with h2|h2
    ·exact h2
    ·rw[List.getElem?_eq_none (by simp;omega)] at hi;cases hi
   rw[hi0] at hi;simp at hi;refine⟨n,hn,hi,fun f hff=>?_⟩;obtain⟨j,hj,h2⟩:=List.mem_iff_getElem.1 (hall f hff);exact⟨j,by omega,by rw[List.getElem?_append_left hj,List.getElem?_eq_getElem hj,h2]⟩
theorem Ord.le{l:List Nd}{out:List Int}(h:Ord l out): out.length≤l.length:=by
 have:=h.nd.length_le_of_subset h.sub;unfold ids at this
 rwa [List.length_map] at this
theorem sortG_ord{l:List Nd}: ∀(k:Nat) (out:List Int),Ord l out→Ord l (sortG l k out)
 | 0,out,h=>h
 |k+1,out,h=>by
  rw[sortG]
  cases hn:nextS l out with
  | none=>exact h
  | some x=>exact sortG_ord k _ (h.step hn)
theorem sortG_end{l:List Nd}: ∀(k:Nat) (out:List Int),Ord l out→l.length<k+out.length→nextS l (sortG l k out)=none
 | 0,out,h,hk=>by have:=h.le;omega
 |k+1,out,h,hk=>by
  rw[sortG]
  cases hn:nextS l out with
  | none=>exact hn
  | some x=>exact sortG_end k _ (h.step hn) (by rw[List.length_append];simp;omega)
theorem find_of_mem{l:List Nd}{x:Int}(h:x∈ids l): ∃n,((find l x).bind fun i=>l[i]?)=some n∧n∈l∧n.id=x:=by
 obtain⟨n,hn,rfl⟩:=List.mem_map.1 h
 cases hf:find l n.id with
 |none =>
  unfold find at hf;rw[List.findIdx?_eq_none_iff] at hf;have:=hf n hn
  simp at this
 |some i =>
  have hf2:=hf;unfold find at hf;obtain⟨hi,h1,-⟩:=List.findIdx?_eq_some_iff_getElem.1 hf;exact⟨l[i],by simp[List.getElem?_eq_getElem hi],List.getElem_mem hi,by simpa using h1⟩
theorem cycle_of{l:List Nd}{out:List Int}(h8:l.length≤8)(hn:nextS l out=none)(hfr:∀n∈l,∀f∈n.frm,f∈ids l){x:Int}(hx:x∈ids l)(hxo:x∉out): ∃y∈ids l,above l y y 9=true:=by
 have hstep:∀y:Int,∃z:Int,y∈ids l→y∉out→Edge l y z∧z∈ids l∧z∉out:=by
  intro y;by_cases hy:y∈ids l∧y∉out
  ·obtain⟨n,h1,h2,h3⟩:=find_of_mem hy.1;obtain⟨f,hf,hfo⟩:=nextS_none hn n h2 (by rw[h3];exact hy.2);exact⟨f,fun _ _=>⟨⟨n,h1,hf⟩,hfr n h2 f hf,hfo⟩⟩
  ·exact⟨0,fun h1 h2=>absurd ⟨h1,h2⟩ hy⟩
 obtain⟨g,hg⟩:=Classical.axiomOfChoice hstep
 let p:Nat→Int:=fun i=>Nat.rec x (fun _ y=>g y) i
 have hp:∀i,p i∈ids l∧p i∉out:=by
  intro i
  induction i with
  | zero=>exact⟨hx,hxo⟩
  | succ i ih=>exact(hg (p i) ih.1 ih.2).2
 have hw:∀k,Way l p k:=fun k i _=>(hg (p i) (hp i).1 (hp i).2).1
 have hnd:¬((List.range 9).map p).Nodup:=fun hnd=>by
  have:=hnd.length_le_of_subset (l₂:=ids l) (fun y hy=>by
   obtain⟨i,-,rfl⟩:=List.mem_map.1 hy
   exact(hp i).1)
  unfold ids at this;simp at this;omega
 have hex:∃i j,i<j∧j<9∧p i=p j:=by
  refine Classical.byContradiction fun hne=>hnd ?_
  rw[List.Nodup,List.pairwise_iff_getElem];intro i j hi hj hij he;simp at hi hj;simp at he;exact hne ⟨i,j,hij,hj,he⟩
 obtain⟨i,j,hij,hj,he⟩:=hex;have ha:=(hw 9).above (j-i-1) i (by omega);rw[show i+(j-i-1)+1=j by omega,←he] at ha;exact⟨p i,(hp i).1,above_le (by omega) ha⟩
theorem no_cycle{l:List Nd}{out:List Int}(h:Ord l out)(hu:(ids l).Nodup)(hlen:out.length=l.length): ∀(k:Nat) (x z:Int) (i:Nat),out[i]? = some x→above l x z k=true→∃j,j<i∧out[j]? = some z
 | 0,x,z,i,hi,ha=>by simp[above] at ha
 |k+1,x,z,i,hi,ha=>by
  obtain⟨y,⟨n,h1,h2⟩,h3⟩:=above_succ.1 ha;obtain⟨m,hm,hid,hf⟩:=h.dn i x hi
  have hnm:n=m:=by
   obtain⟨n',h4,h5,h6⟩:=find_of_mem (l:=l) (x:=x) (List.mem_map.2 ⟨m,hm,hid⟩);rw[h1] at h4;cases h4;obtain⟨a,ha',e1⟩:=List.mem_iff_getElem.1 h5;obtain⟨b,hb',e2⟩:=List.mem_iff_getElem.1 hm
   have hab:a=b:=by
    refine Classical.byContradiction fun hne=>?_
    have hp:=List.pairwise_iff_getElem.1 hu;rcases Nat.lt_or_gt_of_ne hne with hlt|hlt
    ·refine hp a b (by simpa [ids] using ha') (by simpa [ids] using hb') hlt ?_;simp[ids,e1,e2,h6,hid]
    ·refine hp b a (by simpa [ids] using hb') (by simpa [ids] using ha') hlt ?_;simp[ids,e1,e2,h6,hid]
   subst hab;rw[←e1,←e2]
  subst hnm;obtain⟨j,hj,h4⟩:=hf y h2;rcases h3 with rfl|h3
  ·exact⟨j,hj,h4⟩
  ·obtain⟨j',hj',h5⟩:=no_cycle h hu hlen k y z j h4 h3;exact⟨j',by omega,h5⟩
theorem sort_all{l:List Nd}(h8:l.length≤8)(hu:(ids l).Nodup)(hfr:∀n∈l,∀f∈n.frm,f∈ids l): (sortG l (l.length+1) []).length=l.length↔∀n∈l,above l n.id n.id 9=false:=by
 have ho:=sortG_ord (l.length+1) [] (Ord.nil l);have hend:=sortG_end (l.length+1) [] (Ord.nil l) (by simp);generalize sortG l (l.length+1) []=out at *
 have hin:out.length=l.length→∀x∈ids l,x∈out:=by
  intro hlen x hx;refine Classical.byContradiction fun hxo=>?_
  have:=(List.nodup_cons.2 ⟨hxo,ho.nd⟩).length_le_of_subset (l₂:=ids l) (fun y hy=>by
   rcases List.mem_cons.1 hy with rfl|h1
   ·exact hx
   ·exact ho.sub y h1)
  unfold ids at this;simp at this;omega
 constructor
 ·intro hlen n hn
  cases ha:above l n.id n.id 9 with
  | false=>rfl
  |true =>
   exfalso;obtain⟨i,hi,e⟩:=List.mem_iff_getElem.1 (hin hlen n.id (List.mem_map.2 ⟨n,hn,rfl⟩));obtain⟨j,hj,e2⟩:=no_cycle ho hu hlen 9 n.id n.id i (by rw[List.getElem?_eq_getElem hi,e]) ha;have hj':j<out.length:=by omega
   rw[List.getElem?_eq_getElem hj'] at e2;have:=List.pairwise_iff_getElem.1 ho.nd j i hj' hi hj;exact this (by rw[e];exact Option.some.inj e2)
 ·intro hall;refine Classical.byContradiction fun hne=>?_
  have hlt:out.length<l.length:=by have:=ho.le;omega
  have hex:∃x∈ids l,x∉out:=by
   refine Classical.byContradiction fun hno=>?_
   have:=hu.length_le_of_subset (l₂:=out) (fun x hx=>Classical.byContradiction fun hxo=>hno ⟨x,hx,hxo⟩);unfold ids at this;simp at this;omega
  obtain⟨x,hx,hxo⟩:=hex;obtain⟨y,hy,ha⟩:=cycle_of h8 hend hfr hx hxo;obtain⟨n,hn,rfl⟩:=List.mem_map.1 hy;rw[hall n hn] at ha;cases ha
end Gr
namespace Gr
structure OkR (l:List Nd) (i:Nat) (n:Nd):Prop where
 id0:0≤n.id
 id7:n.id≤7
 fst:find l n.id=some i
 kd0:0≤n.kind
 kd2:n.kind≤2
 pr1:1≤n.par
 pr3:n.par≤3
 fr3:n.frm.length≤3
 src:n.id=0↔n.kind=0
 rt:∀g∈n.route,0≤g∧g<n.par
 f0:n.kind=0→n.frm.length=0
 f1:n.kind=1→n.frm.length=1
 f2:n.kind=2→n.frm.length≠0
 p1:n.kind=1→Vm.safe n.prog=true
 p0:n.kind≠1→n.prog.length=0
 fr:∀k f,n.frm[k]? = some f→(∃j m,find l f=some j∧l[j]? = some m∧m.kind≠2)∧f∉n.frm.take k
structure RightR (l:List Nd):Prop where
 len:l.length≤8
 ok:∀i n,l[i]? = some n→OkR l i n
 one:l.countP (fun n=>n.kind==0)=1
 ac:∀n∈l,above l n.id n.id 9=false
structure OkP (l:List Nd) (n:Nd):Prop where
 id0:0≤n.id
 id7:n.id<8
 kd:(n.kind=0∧n.id=0∧n.frm.length=0∧n.prog.length=0)∨(n.kind=1∧n.id≠0∧n.frm.length=1∧Vm.safe n.prog=true)∨(n.kind=2∧n.id≠0∧1≤n.frm.length∧n.frm.length≤3∧n.frm.Nodup∧n.prog.length=0)
 pr1:1≤n.par
 pr3:n.par≤3
 rt:∀g∈n.route,0≤g∧g<n.par
 fr:∀f∈n.frm,∃j m,find l f=some j∧l[j]? = some m∧m.kind≠2
structure RightP (l l':List Nd):Prop where
 len:l.length≤8
 ok:∀n∈l,OkP l n
 un:(ids l).Nodup
 z:(0:Int)∈ids l
 so:(sortG l' (l'.length+1) []).length=l.length
theorem perm_ids{l l':List Nd}(hp:l.Perm l'): (ids l).Perm (ids l'):=hp.map _
theorem nodup_take{l:List Int}: l.Nodup↔∀k f,l[k]? = some f→f∉l.take k:=by
 rw[List.Nodup,List.pairwise_iff_getElem];constructor
 ·intro h k f hk hf;obtain⟨j,hj,e⟩:=List.mem_iff_getElem.1 hf;rw[List.length_take] at hj;rw[List.getElem_take] at e;obtain⟨hk',e2⟩:=List.getElem?_eq_some_iff.1 hk;exact h j k (by omega) hk' (by omega) (by rw[e,e2])
 ·intro h i j hi hj hij he;refine h j l[j] (List.getElem?_eq_getElem hj) ?_;rw[←he];exact List.mem_iff_getElem.2 ⟨i,by rw[List.length_take];omega,by rw[List.getElem_take]⟩
theorem find_some{l:List Nd}{x:Int}{j:Nat}(h:find l x=some j): ∃m,l[j]? = some m∧m.id=x:=by
 unfold find at h;obtain⟨hi,h1,-⟩:=List.findIdx?_eq_some_iff_getElem.1 h;exact⟨l[j],List.getElem?_eq_getElem hi,by simpa using h1⟩
theorem ids_nodup{l:List Nd}: (∀i n,l[i]? = some n→find l n.id=some i)↔(ids l).Nodup:=by
 rw[List.Nodup,List.pairwise_iff_getElem];constructor
 ·intro h i j hi hj hij he;have hi':i<l.length:=by simpa [ids] using hi
  have hj':j<l.length:=by simpa [ids] using hj
  have h1:=h i l[i] (List.getElem?_eq_getElem hi');have h2:=h j l[j] (List.getElem?_eq_getElem hj');simp[ids] at he;rw[he,h2] at h1;have:=Option.some.inj h1;omega
 ·intro h i n hn;obtain⟨hi,e⟩:=List.getElem?_eq_some_iff.1 hn;unfold find;refine List.findIdx?_eq_some_iff_getElem.2 ⟨hi,by simp[e],fun j hji=>?_⟩;have:=h j i (by simp[ids];omega) (by simp[ids];omega) hji;simp[ids,e] at this;simpa using this
theorem bind_find{l:List Nd}(hu:(ids l).Nodup){n:Nd}(hn:n∈l): ((find l n.id).bind fun i=>l[i]?)=some n:=by
 obtain⟨i,hi,e⟩:=List.mem_iff_getElem.1 hn;have h1:=ids_nodup.2 hu i n (by rw[List.getElem?_eq_getElem hi,e]);rw[h1,Option.bind_some,List.getElem?_eq_getElem hi,e]
theorem bind_perm{l l':List Nd}(hp:l.Perm l')(hu:(ids l).Nodup)(x:Int): ((find l x).bind fun i=>l[i]?)=((find l' x).bind fun i=>l'[i]?):=by
 have hu':(ids l').Nodup:=(perm_ids hp).nodup_iff.1 hu;by_cases h:x∈ids l
 ·obtain⟨n,hn,rfl⟩:=List.mem_map.1 h;rw[bind_find hu hn,bind_find hu' (hp.mem_iff.1 hn)]
 ·have h':x∉ids l':=fun q=>h ((perm_ids hp).mem_iff.2 q)
  have hno:∀(l:List Nd),x∉ids l→find l x=none:=fun l hl=>by
   unfold find;rw[List.findIdx?_eq_none_iff];intro n hn;have:n.id≠x:=fun e=>hl (List.mem_map.2 ⟨n,hn,e⟩)
   simpa using this
  rw[hno l h,hno l' h'];rfl
theorem above_perm{l l':List Nd}(hp:l.Perm l')(hu:(ids l).Nodup): ∀(k:Nat) (x z:Int),above l x z k=above l' x z k
 | 0,x,z=>rfl
 |k+1,x,z=>by
  rw[above,above,bind_perm hp hu x]
  cases (find l' x).bind fun i=>l'[i]? with
  | none=>rfl
  |some n =>
   simp only
   congr 1
   funext f
   rw[above_perm hp hu k f z]
theorem zero_one{l:List Nd}(hu:(ids l).Nodup)(hs:∀n∈l,n.id=0↔n.kind=0): l.countP (fun n=>n.kind==0)=1↔(0:Int)∈ids l:=by
 have h1:l.countP (fun n=>n.kind==0)=(ids l).count 0:=by
  unfold ids;rw[List.count,List.countP_map];refine List.countP_congr fun n hn=>?_
  have:=hs n hn;simp only[Function.comp,beq_iff_eq];exact this.symm
 rw[h1];constructor
 ·intro h;exact List.count_pos_iff.1 (by omega)
 ·intro h;have h2:=List.count_pos_iff.2 h;have h3:=List.nodup_iff_count.1 hu 0;omega
theorem mem_ids_of_find{l:List Nd}{f:Int}{j:Nat}(h:find l f=some j): f∈ids l:=by
 obtain⟨m,hm,e⟩:=find_some h;exact List.mem_map.2 ⟨m,List.mem_of_getElem? hm,e⟩
theorem right_iff{l l':List Nd}(hp:l.Perm l'): RightR l↔RightP l l':=by
 constructor
 ·intro h;have hu:(ids l).Nodup:=ids_nodup.1 fun i n hn=>(h.ok i n hn).fst
  have hok:∀n∈l,∃i,OkR l i n:=fun n hn=>by
   obtain⟨i,hi,e⟩:=List.mem_iff_getElem.1 hn;exact⟨i,h.ok i n (by rw[List.getElem?_eq_getElem hi,e])⟩
  have hfr:∀n∈l,∀f∈n.frm,∃j m,find l f=some j∧l[j]? = some m∧m.kind≠2:=fun n hn f hf=>by
   obtain⟨i,hr⟩:=hok n hn;obtain⟨k,hk,e⟩:=List.mem_iff_getElem.1 hf;exact(hr.fr k f (by rw[List.getElem?_eq_getElem hk,e])).1
  refine⟨h.len,fun n hn=>?_,hu,(zero_one hu fun n hn=>(hok n hn).elim fun i hr=>hr.src).1 h.one,?_⟩
  ·obtain⟨i,hr⟩:=hok n hn;refine⟨hr.id0,by have:=hr.id7;omega,?_,hr.pr1,hr.pr3,hr.rt,hfr n hn⟩;have hk0:=hr.kd0;have hk2:=hr.kd2;have hs:=hr.src;rcases (show n.kind=0∨n.kind=1∨n.kind=2 by omega) with e|e|e
   ·exact .inl ⟨e,hs.2 e,hr.f0 e,hr.p0 (by omega)⟩
   ·exact .inr (.inl ⟨e,fun q=>by have:=hs.1 q;omega,hr.f1 e,hr.p1 e⟩)
   ·exact .inr (.inr ⟨e,fun q=>by have:=hs.1 q;omega,by have:=hr.f2 e;omega,hr.fr3,nodup_take.2 fun k f hk=>(hr.fr k f hk).2,hr.p0 (by omega)⟩)
  ·rw[hp.length_eq];refine(sort_all (by rw[←hp.length_eq];exact h.len) ((perm_ids hp).nodup_iff.1 hu) (fun n hn f hf=>?_)).2 fun n hn=>?_
   ·obtain⟨j,m,h1,_⟩:=hfr n (hp.mem_iff.2 hn) f hf;exact(perm_ids hp).mem_iff.1 (mem_ids_of_find h1)
   ·rw[←above_perm hp hu];exact h.ac n (hp.mem_iff.2 hn)
 ·intro h;have hu:=h.un;refine⟨h.len,fun i n hn=>?_,(zero_one hu fun n hn=>?_).2 h.z,fun n hn=>?_⟩
  ·have hr:=h.ok n (List.mem_of_getElem? hn);have hkd:=hr.kd;refine⟨hr.id0,by have:=hr.id7;omega,ids_nodup.2 hu i n hn,by omega,by omega,hr.pr1,hr.pr3,by omega,by omega,hr.rt,by omega,by omega,by omega,?_,by omega,fun k f hk=>⟨hr.fr f (List.mem_of_getElem? hk),?_⟩⟩
   ·intro e;rcases hkd with h1|h1|h1
    ·omega
    ·exact h1.2.2.2
    ·omega
   ·have hnd:n.frm.Nodup:=by
     rcases hkd with h1|h1|h1
     ·rw[List.length_eq_zero_iff.1 h1.2.2.1];exact List.nodup_nil
     ·obtain⟨a,e⟩:=List.length_eq_one_iff.1 h1.2.2.1;rw[e];simp
     ·exact h1.2.2.2.2.1
    exact nodup_take.1 hnd k f hk
  ·have hkd:=(h.ok n hn).kd;omega
  ·rw[above_perm hp hu];refine(sort_all (l:=l') (by rw[←hp.length_eq];exact h.len) ((perm_ids hp).nodup_iff.1 hu) (fun n hn f hf=>?_)).1 (h.so.trans hp.length_eq) n (hp.mem_iff.1 hn);obtain⟨j,m,h1,_⟩:=(h.ok n (hp.mem_iff.2 hn)).fr f hf;exact(perm_ids hp).mem_iff.1 (mem_ids_of_find h1)
end Gr
namespace Gr
def nodeOf(l:List Nd)(x:Int): Option Nd:=(find l x).bind fun i=>l[i]?
theorem nodeOf_some{l:List Nd}{x:Int}{n:Nd}(h:nodeOf l x=some n): n∈l∧n.id=x:=by
 unfold nodeOf at h
 cases hf:find l x with
 | none=>rw[hf] at h;cases h
 |some i =>
  rw[hf] at h;obtain⟨m,hm,e⟩:=find_some hf;rw[Option.bind_some,hm] at h;cases h;exact⟨List.mem_of_getElem? hm,e⟩
def normG(l:List Nd): List Nd:=(List.range 8).filterMap fun(i:Nat)=>nodeOf l (i:Int)
theorem normG_sorted(l:List Nd): (normG l).Pairwise fun a b=>a.id<b.id:=by
 unfold normG;refine List.Pairwise.filterMap (R:=fun a b=>a<b) _ (fun a a' hlt b hb b' hb'=>?_) List.pairwise_lt_range;rw[(nodeOf_some hb).2,(nodeOf_some hb').2];omega
theorem normG_mem{l:List Nd}(hu:(ids l).Nodup)(h7:∀n∈l,0≤n.id∧n.id≤7)(n:Nd): n∈normG l↔n∈l:=by
 unfold normG;rw[List.mem_filterMap];constructor
 ·rintro⟨i,-,h⟩;exact(nodeOf_some h).1
 ·intro h;have:=h7 n h;refine⟨n.id.toNat,List.mem_range.2 (by omega),?_⟩;rw[Int.toNat_of_nonneg this.1];exact bind_find hu h
theorem nodup_of_ids{l:List Nd}(hu:(ids l).Nodup): l.Nodup:=by
 unfold ids at hu;rw[List.Nodup,List.pairwise_map] at hu;exact hu.imp fun h e=>h (by rw[e])
theorem normG_perm{l:List Nd}(hu:(ids l).Nodup)(h7:∀n∈l,0≤n.id∧n.id≤7): (normG l).Perm l :=
 (List.perm_ext_iff_of_nodup ((normG_sorted l).imp fun h e=>by rw[e] at h;omega) (nodup_of_ids hu)).2 (normG_mem hu h7)
theorem norm_unique{l l':List Nd}(hp:l'.Perm l)(hs:l'.Pairwise fun a b=>a.id≤b.id)(hu:(ids l).Nodup)(h7:∀n∈l,0≤n.id∧n.id≤7): l'=normG l:=by
 have hp2:l'.Perm (normG l):=hp.trans (normG_perm hu h7).symm;refine List.Perm.eq_of_pairwise (le:=fun a b=>a.id≤b.id) (fun a b ha hb h1 h2=>?_) hs ((normG_sorted l).imp fun h=>by omega) hp2;have e:a.id=b.id:=by omega
 have ha':=hp.mem_iff.1 ha;have hb':=(normG_mem hu h7 b).1 hb;have h3:=bind_find hu ha';have h4:=bind_find hu hb';rw[e,h4] at h3;exact(Option.some.inj h3).symm
end Gr
namespace Gr
open Oc (be bes)
def wn(s:List UInt8)(a b:Int): Int×Int×List UInt8:=if s.length<4 then (0,3,s) else if Oc.num s<a∨b<Oc.num s then (0,2,s) else (Oc.num s,0,s.drop 4)
abbrev Rs:=List UInt8×Int
def numS(a b:Int)(s:Rs): Int×Rs:=if s.2≠0 then (0,s) else ((wn s.1 a b).1,((wn s.1 a b).2.2,(wn s.1 a b).2.1))
theorem wn_put{a b n:Int}(h1:a≤n)(h2:n≤b)(hf:Oc.fitsN n=true)(t:List UInt8): wn (be n++t) a b=(n,0,t):=by
 unfold wn;rw[if_neg (by rw[List.length_append,Oc.be_len];omega),Oc.num_be n hf,if_neg (by omega)];rfl
theorem wn_can{s t:List UInt8}{a b n:Int}(h:wn s a b=(n,0,t)): s=be n++t∧a≤n∧n≤b:=by
 unfold wn at h;by_cases h4:s.length<4
 ·rw[if_pos h4] at h;simp at h
 ·rw[if_neg h4] at h;by_cases hr:Oc.num s<a∨b<Oc.num s
  ·rw[if_pos hr] at h;simp at h
  ·rw[if_neg hr] at h;simp only[Prod.mk.injEq,true_and] at h;obtain⟨rfl,rfl⟩:=h
   match s,h4 with
   |x::y::z::u::s,_ =>
    refine⟨?_,by omega,by omega⟩;rw[Oc.be_num]
    rfl
   | [],h4=>simp at h4
   | [_],h4=>simp at h4
   | [_,_],h4=>simp at h4
   | [_,_,_],h4=>simp at h4
theorem numS_put{a b n:Int}(h1:a≤n)(h2:n≤b)(hf:Oc.fitsN n=true)(t:List UInt8): numS a b (be n++t,0)=(n,(t,0)):=by
 unfold numS;rw[if_neg (by simp)];simp only;rw[wn_put h1 h2 hf]
theorem numS_can{a b n:Int}{s:Rs}{t:List UInt8}(h:numS a b s=(n,(t,0))): s.2=0∧s.1=be n++t∧a≤n∧n≤b:=by
 obtain⟨s,e⟩:=s;unfold numS at h;by_cases he:e=0
 ·subst he;rw[if_neg (by simp)] at h;simp only at h
  have hw:wn s a b=(n,0,t):=by
   generalize wn s a b=w at h;obtain⟨x,y,z⟩:=w;simp only[Prod.mk.injEq] at h;obtain⟨rfl,rfl,rfl⟩:=h;rfl
  exact⟨rfl,wn_can hw⟩
 ·rw[if_pos he] at h;simp only[Prod.mk.injEq] at h;exact absurd h.2.2 he
theorem numS_err(a b:Int){s:Rs}(h:s.2≠0): numS a b s=(0,s):=by unfold numS;rw[if_pos h]
def listS(a b:Int): Nat→Rs→List Int×Rs
 | 0,s=>([],s)
 | k+1,s=>((numS a b s).1::(listS a b k (numS a b s).2).1,(listS a b k (numS a b s).2).2)
theorem listS_put{a b:Int}(ha : -2147483648≤a)(hb:b≤2147483647): ∀(l:List Int) (t:List UInt8),(∀x∈l,a≤x∧x≤b)→listS a b l.length (bes l++t,0)=(l,(t,0))
 | [],t,_=>rfl
 |x::l,t,h=>by
  have hx:=h x (List.mem_cons_self ..)
  have h1:numS a b (bes (x::l)++t,0)=(x,(bes l++t,0)):=by
   show numS a b ((be x++bes l)++t,0)=_;rw[List.append_assoc];exact numS_put hx.1 hx.2 (by unfold Oc.fitsN;simp;omega) _
  rw[List.length_cons,listS,h1];simp only;rw[listS_put ha hb l t fun y hy=>h y (List.mem_cons_of_mem _ hy)]
theorem listS_can{a b:Int}: ∀(k:Nat) {s:Rs} {l:List Int} {t:List UInt8},listS a b k s=(l,(t,0))→s.2=0∧s.1=bes l++t∧l.length=k∧∀x∈l,a≤x∧x≤b
 |0,s,l,t,h=>by
  unfold listS at h;simp only[Prod.mk.injEq] at h;obtain⟨rfl,rfl⟩:=h
  exact⟨rfl,rfl,rfl,fun x hx=>(by cases hx)⟩
 |k+1,s,l,t,h=>by
  rw[listS] at h;simp only[Prod.mk.injEq] at h;obtain⟨rfl,h2⟩:=h;have ih:=listS_can k (l:=(listS a b k (numS a b s).2).1) (t:=t) (by rw[←h2]);obtain⟨i1,i2,i3,i4⟩:=ih
  have hn:=numS_can (a:=a) (b:=b) (n:=(numS a b s).1) (s:=s) (t:=(numS a b s).2.1) (by
   generalize numS a b s=w at *;obtain⟨x,y,z⟩:=w;simp only at i1;subst i1
   rfl)
  obtain⟨n1,n2,n3,n4⟩:=hn;refine⟨n1,?_,by rw[List.length_cons,i3],fun x hx=>?_⟩
  ·rw[n2,i2];show _=(be _++bes _)++t;rw[List.append_assoc]
  ·rcases List.mem_cons.1 hx with rfl|h3
   ·exact⟨n3,n4⟩
   ·exact i4 x h3
structure Codec (gp:List UInt8→List Vm.Ins×Int×List UInt8) (pp:List Vm.Ins→List UInt8) (fits:List Vm.Ins→Prop):Prop where
 put:∀l t,fits l→gp (pp l++t)=(l,0,t)
 can:∀s l t,gp s=(l,0,t)→s=pp l++t∧fits l
section
variable (gp:List UInt8→List Vm.Ins×Int×List UInt8) (pp:List Vm.Ins→List UInt8) (fits:List Vm.Ins→Prop)
def progS(s:Rs): List Vm.Ins×Rs:=if s.2≠0 then ([],s) else ((gp s.1).1,((gp s.1).2.2,(gp s.1).2.1))
def putNd(n:Nd): List UInt8:=be n.id++(be n.kind++(be n.frm.length++(bes n.frm++(pp n.prog++(be n.par++bes n.route)))))
def nodeS(lp:Int)(s:Rs): Nd×Rs :=
 let a:=numS 0 7 s
 let b:=numS 0 2 a.2
 let m:=numS 0 3 b.2
 let f:=listS 0 7 m.1.toNat m.2
 let p:=progS gp f.2
 let r:=numS lp 3 p.2
 let o:=listS 0 2 8 r.2
 (⟨a.1,b.1,f.1,p.1,r.1,o.1⟩,o.2)
structure OkB (lp:Int) (n:Nd):Prop where
 i:0≤n.id∧n.id≤7
 k:0≤n.kind∧n.kind≤2
 m:n.frm.length≤3
 f:∀x∈n.frm,0≤x∧x≤7
 p:fits n.prog
 r:lp≤n.par∧n.par≤3
 ol:n.route.length=8
 o:∀x∈n.route,0≤x∧x≤2
end
section
variable {gp:List UInt8→List Vm.Ins×Int×List UInt8} {pp:List Vm.Ins→List UInt8} {fits:List Vm.Ins→Prop}
theorem progS_put(hc:Codec gp pp fits){l:List Vm.Ins}(h:fits l)(t:List UInt8): progS gp (pp l++t,0)=(l,(t,0)):=by
 unfold progS;rw[if_neg (by simp)];simp only;rw[hc.put l t h]
theorem progS_can(hc:Codec gp pp fits){s:Rs}{l:List Vm.Ins}{t:List UInt8}(h:progS gp s=(l,(t,0))): s.2=0∧s.1=pp l++t∧fits l:=by
 obtain⟨s,e⟩:=s;unfold progS at h;by_cases he:e=0
 ·subst he;rw[if_neg (by simp)] at h;simp only at h
  have hw:gp s=(l,0,t):=by
   generalize gp s=w at h;obtain⟨x,y,z⟩:=w;simp only[Prod.mk.injEq] at h;obtain⟨rfl,rfl,rfl⟩:=h;rfl
  exact⟨rfl,hc.can s l t hw⟩
 ·rw[if_pos he] at h;simp only[Prod.mk.injEq] at h;exact absurd h.2.2 he
theorem eta{α:Type}(x:α×Rs)(h:x.2.2=0): x=(x.1,(x.2.1,0)):=by
 obtain⟨a,b,c⟩:=x;simp only at h;subst h;rfl
theorem nodeS_put(hc:Codec gp pp fits){lp:Int}(hlp : -2147483648≤lp){n:Nd}(h:OkB fits lp n)(t:List UInt8): nodeS gp lp (putNd pp n++t,0)=(n,(t,0)):=by
 obtain⟨id,kind,frm,prog,par,route⟩:=n;obtain⟨h1,h2,h3,h4,h5,h6,h7,h8⟩:=h;simp only at h1 h2 h3 h4 h5 h6 h7 h8;unfold nodeS putNd;simp only[List.append_assoc];rw[numS_put h1.1 h1.2 (by unfold Oc.fitsN;simp;omega)];simp only;rw[numS_put h2.1 h2.2 (by unfold Oc.fitsN;simp;omega)];simp only;rw[numS_put (by omega) (by omega) (by unfold Oc.fitsN;simp;omega)];simp only[Int.toNat_natCast];rw[listS_put (by decide) (by decide) frm _ h4];simp only;rw[progS_put hc h5];simp only;rw[numS_put h6.1 h6.2 (by unfold Oc.fitsN;simp;omega)];simp only;have h9:=listS_put (a:=0) (b:=2) (by decide) (by decide) route t h8;rw[h7] at h9;rw[h9]
theorem nodeS_can(hc:Codec gp pp fits){lp:Int}{s:Rs}{n:Nd}{t:List UInt8}(h:nodeS gp lp s=(n,(t,0))): s.2=0∧s.1=putNd pp n++t∧OkB fits lp n:=by
 unfold nodeS at h;simp only[Prod.mk.injEq] at h;obtain⟨rfl,h⟩:=h;generalize ha:numS 0 7 s=a at *;generalize hb:numS 0 2 a.2=b at *;generalize hm:numS 0 3 b.2=m at *;generalize hf:listS 0 7 m.1.toNat m.2=f at *;generalize hp:progS gp f.2=p at *;generalize hr:numS lp 3 p.2=r at *;generalize ho:listS 0 2 8 r.2=o at *;obtain⟨o1,o2⟩:=o;simp only at h;subst h;obtain⟨o3,o4,o5,o6⟩:=listS_can 8 ho;obtain⟨r3,r4,r5,r6⟩:=numS_can (hr.trans (eta r o3));obtain⟨p3,p4,p5⟩:=progS_can hc (hp.trans (eta p r3));obtain⟨f3,f4,f5,f6⟩:=listS_can _ (hf.trans (eta f p3));obtain⟨m3,m4,m5,m6⟩:=numS_can (hm.trans (eta m f3));obtain⟨b3,b4,b5,b6⟩:=numS_can (hb.trans (eta b m3));obtain⟨a3,a4,a5,a6⟩:=numS_can (ha.trans (eta a b3));refine⟨a3,?_,⟨⟨a5,a6⟩,⟨b5,b6⟩,by simp only;omega,f6,p5,⟨r5,r6⟩,o5,o6⟩⟩;unfold putNd;simp only[List.append_assoc];rw[a4,b4,m4,f4,p4,r4,o4,show((f.1.length:Nat):Int)=m.1 by omega]
def nodesS(gp:List UInt8→List Vm.Ins×Int×List UInt8)(lp:Int): Nat→Rs→List Nd×Rs
 | 0,s=>([],s)
 | k+1,s=>((nodeS gp lp s).1::(nodesS gp lp k (nodeS gp lp s).2).1,(nodesS gp lp k (nodeS gp lp s).2).2)
end
end Gr
namespace Gr
open Oc (be bes)
def putG(pp:List Vm.Ins→List UInt8)(l:List Nd): List UInt8:=be l.length++(normG l).flatMap (putNd pp)
def sortedG(l:List Nd): Prop:=l.Pairwise fun a b=>a.id≤b.id
section
variable {gp:List UInt8→List Vm.Ins×Int×List UInt8} {pp:List Vm.Ins→List UInt8} {fits:List Vm.Ins→Prop}
theorem RightR.ids{l:List Nd}(h:RightR l): (ids l).Nodup:=ids_nodup.1 fun i n hn=>(h.ok i n hn).fst
theorem RightR.at{l:List Nd}(h:RightR l){n:Nd}(hn:n∈l): ∃i,OkR l i n:=by
 obtain⟨i,hi,e⟩:=List.mem_iff_getElem.1 hn;exact⟨i,h.ok i n (by rw[List.getElem?_eq_getElem hi,e])⟩
theorem RightR.r7{l:List Nd}(h:RightR l): ∀n∈l,0≤n.id∧n.id≤7:=fun n hn=>by
 obtain⟨i,hr⟩:=h.at hn;exact⟨hr.id0,hr.id7⟩
theorem RightR.okB{l:List Nd}(h:RightR l)(h0:fits [])(hs:∀p,Vm.safe p=true→fits p)(hl:∀n∈l,n.route.length=8): ∀n∈l,OkB fits 1 n:=fun n hn=>by
 obtain⟨i,hr⟩:=h.at hn;refine⟨⟨hr.id0,hr.id7⟩,⟨hr.kd0,hr.kd2⟩,hr.fr3,fun x hx=>?_,?_,⟨hr.pr1,hr.pr3⟩,hl n hn,fun x hx=>?_⟩
 ·obtain⟨k,hk,e⟩:=List.mem_iff_getElem.1 hx;obtain⟨⟨j,m,h1,h2,-⟩,-⟩:=hr.fr k x (by rw[List.getElem?_eq_getElem hk,e]);obtain⟨m',h3,h4⟩:=find_some h1;rw[h2] at h3;cases h3;rw[←h4];exact h.r7 m (List.mem_of_getElem? h2)
 ·by_cases e:n.kind=1
  ·exact hs _ (hr.p1 e)
  ·rw[List.length_eq_zero_iff.1 (hr.p0 e)];exact h0
 ·have:=hr.rt x hx;have:=hr.pr3;omega
theorem RightR.perm{l l':List Nd}(hp:l.Perm l')(h:RightR l): RightR l':=by
 have hq:=(right_iff hp).1 h;refine(right_iff (List.Perm.refl l')).2 ⟨by rw[←hp.length_eq];exact hq.len,fun n hn=>?_,(perm_ids hp).nodup_iff.1 hq.un,(perm_ids hp).mem_iff.1 hq.z,by rw[←hp.length_eq,hp.length_eq];exact hq.so.trans hp.length_eq⟩;have ho:=hq.ok n (hp.mem_iff.2 hn);refine⟨ho.id0,ho.id7,ho.kd,ho.pr1,ho.pr3,ho.rt,fun f hf=>?_⟩;obtain⟨j,m,h1,h2,h3⟩:=ho.fr f hf;have hb:=bind_perm hp hq.un f;rw[h1,Option.bind_some,h2] at hb
 cases hf':find l' f with
 | none=>rw[hf'] at hb;cases hb
 |some j' =>
  rw[hf',Option.bind_some] at hb;exact⟨j',m,rfl,hb.symm,h3⟩
theorem norm_self{l:List Nd}(hs:sortedG l)(hu:(ids l).Nodup)(h7:∀n∈l,0≤n.id∧n.id≤7): normG l=l:=(norm_unique (List.Perm.refl l) hs hu h7).symm
end
end Gr
namespace Gr
open Oc (be bes)
structure Stp where
 kind:Int
 nd:Nd
 reset:Bool
def zeros:List Int:=List.replicate 8 0
def cleanS(s:Stp): Stp :=
 if s.kind=1 then ⟨1,⟨s.nd.id,0,[],s.nd.prog,0,zeros⟩,s.reset⟩
 else if s.kind=2 then ⟨2,s.nd,false⟩
 else if s.kind=3 then ⟨3,⟨s.nd.id,0,[],[],0,zeros⟩,false⟩
 else if s.kind=4 then ⟨4,⟨s.nd.id,0,[],[],s.nd.par,s.nd.route⟩,false⟩
 else if s.kind=5 then ⟨5,⟨s.nd.id,0,s.nd.frm,[],0,zeros⟩,false⟩
 else ⟨0,⟨0,0,[],[],0,zeros⟩,false⟩
theorem clean_kind{s:Stp}(h:1≤s.kind∧s.kind≤5): (cleanS s).kind=s.kind:=by
 unfold cleanS;rcases (show s.kind=1∨s.kind=2∨s.kind=3∨s.kind=4∨s.kind=5 by omega) with e|e|e|e|e<;>simp[e]
theorem kind_clean{s:Stp}(h:1≤(cleanS s).kind): 1≤s.kind∧s.kind≤5:=by
 by_cases h1:s.kind=1∨s.kind=2∨s.kind=3∨s.kind=4∨s.kind=5
 ·omega
 ·exfalso;unfold cleanS at h;rw[if_neg (by omega),if_neg (by omega),if_neg (by omega),if_neg (by omega),if_neg (by omega)] at h;simp at h
theorem clean_clean(s:Stp): cleanS (cleanS s)=cleanS s:=by
 by_cases h1:s.kind=1
 ·simp[cleanS,h1]
 by_cases h2:s.kind=2
 ·simp[cleanS,h2]
 by_cases h3:s.kind=3
 ·simp[cleanS,h3]
 by_cases h4:s.kind=4
 ·simp[cleanS,h4]
 by_cases h5:s.kind=5
 ·simp[cleanS,h5]
 ·simp[cleanS,h1,h2,h3,h4,h5]
section
variable (gp:List UInt8→List Vm.Ins×Int×List UInt8) (pp:List Vm.Ins→List UInt8) (fits:List Vm.Ins→Prop)
def putSt(s:Stp): List UInt8:=be (cleanS s).kind++(be (if (cleanS s).reset then 1 else 0)++putNd pp (cleanS s).nd)
def putPl(p:List Stp): List UInt8:=be p.length++p.flatMap (putSt pp)
def OkS(s:Stp): Prop:=(1≤s.kind∧s.kind≤5)∧OkB fits 0 (cleanS s).nd
def OkPl(p:List Stp): Prop:=1≤p.length∧p.length≤6∧∀s∈p,OkS fits s
def stepS(s:Rs): Stp×Rs :=
 let k:=numS 1 5 s
 let r:=numS 0 1 k.2
 let n:=nodeS gp 0 r.2
 (⟨k.1,n.1,r.1==1⟩,n.2)
def stepsS:Nat→Rs→List Stp×Rs
 | 0,s=>([],s)
 | k+1,s=>((stepS gp s).1::(stepsS k (stepS gp s).2).1,(stepsS k (stepS gp s).2).2)
def planS(s:List UInt8): List Stp×Rs:=stepsS gp (numS 1 6 (s,0)).1.toNat (numS 1 6 (s,0)).2
open Classical in
noncomputable def getPl(s:List UInt8): List Stp×Int :=
 if (planS gp s).2.2≠0 then ([],(planS gp s).2.2)
 else if 0<(planS gp s).2.1.length∨¬∀x∈(planS gp s).1,cleanS x=x then ([],4)
 else ((planS gp s).1,0)
end
section
variable {gp:List UInt8→List Vm.Ins×Int×List UInt8} {pp:List Vm.Ins→List UInt8} {fits:List Vm.Ins→Prop}
theorem stepS_put(hc:Codec gp pp fits){s:Stp}(h:OkS fits s)(t:List UInt8): stepS gp (putSt pp s++t,0)=(cleanS s,(t,0)):=by
 obtain⟨hk,hn⟩:=h;have hk2:=clean_kind hk;unfold putSt stepS;generalize cleanS s=c at *;obtain⟨ck,cn,cr⟩:=c;simp only at hk2 hn;subst hk2;simp only[List.append_assoc];rw[numS_put hk.1 hk.2 (by unfold Oc.fitsN;simp;omega)];simp only;rw[numS_put (by split<;>omega) (by split<;>omega) (by cases cr<;>rfl)]
 simp only;rw[nodeS_put hc (by decide) hn];cases cr<;>rfl
theorem stepS_can(hc:Codec gp pp fits){s:Rs}{x:Stp}{t:List UInt8}(h:stepS gp s=(x,(t,0))): s.2=0∧s.1=be x.kind++(be (if x.reset then 1 else 0)++(putNd pp x.nd++t))∧(1≤x.kind∧x.kind≤5)∧OkB fits 0 x.nd:=by
 unfold stepS at h;simp only[Prod.mk.injEq] at h;obtain⟨rfl,h⟩:=h;generalize hk:numS 1 5 s=k at *;generalize hr:numS 0 1 k.2=r at *;generalize hn:nodeS gp 0 r.2=n at *;obtain⟨n1,n2⟩:=n;simp only at h;subst h;obtain⟨n3,n4,n5⟩:=nodeS_can hc hn;obtain⟨r3,r4,r5,r6⟩:=numS_can (hr.trans (eta r n3));obtain⟨k3,k4,k5,k6⟩:=numS_can (hk.trans (eta k r3));refine⟨k3,?_,⟨k5,k6⟩,n5⟩;rw[k4,r4,n4];rcases (show r.1=0∨r.1=1 by omega) with e|e<;>simp[e]
theorem stepsS_put(hc:Codec gp pp fits): ∀(p:List Stp) (t:List UInt8),(∀s∈p,OkS fits s)→stepsS gp p.length (p.flatMap (putSt pp)++t,0)=(p.map cleanS,(t,0))
 | [],t,_=>rfl
 |s::p,t,h=>by
  have h1:stepS gp ((s::p).flatMap (putSt pp)++t,0)=(cleanS s,(p.flatMap (putSt pp)++t,0)):=by
   rw[List.flatMap_cons,List.append_assoc];exact stepS_put hc (h s (List.mem_cons_self ..)) _
  rw[List.length_cons,stepsS,h1];simp only;rw[stepsS_put hc p t fun y hy=>h y (List.mem_cons_of_mem _ hy)];rfl
theorem stepsS_can(hc:Codec gp pp fits): ∀(k:Nat) {s:Rs} {p:List Stp} {t:List UInt8},stepsS gp k s=(p,(t,0))→(∀x∈p,cleanS x=x)→s.2=0∧s.1=p.flatMap (putSt pp)++t∧p.length=k∧∀x∈p,OkS fits x
 |0,s,p,t,h,_=>by
  unfold stepsS at h;simp only[Prod.mk.injEq] at h;obtain⟨rfl,rfl⟩:=h
  exact⟨rfl,rfl,rfl,fun x hx=>(by cases hx)⟩
 |k+1,s,p,t,h,hcl=>by
  rw[stepsS] at h;simp only[Prod.mk.injEq] at h;obtain⟨rfl,h2⟩:=h;obtain⟨i1,i2,i3,i4⟩:=stepsS_can hc k (p:=(stepsS gp k (stepS gp s).2).1) (t:=t) (by rw[←h2]) fun x hx=>hcl x (List.mem_cons_of_mem _ hx)
  obtain⟨n1,n2,n3,n4⟩:=stepS_can hc (eta (stepS gp s) i1);have hx:=hcl _ (List.mem_cons_self ..);refine⟨n1,?_,by rw[List.length_cons,i3],fun x hx2=>?_⟩
  ·rw[n2,i2,List.flatMap_cons,List.append_assoc];show _=putSt pp _++_;unfold putSt;rw[hx];simp only[List.append_assoc]
  ·rcases List.mem_cons.1 hx2 with rfl|h3
   ·exact⟨n3,by rw[hx];exact n4⟩
   ·exact i4 x h3
theorem map_clean{p:List Stp}(h:∀x∈p,cleanS x=x): p.map cleanS=p:=by
 rw[List.map_congr_left (g:=id) h,List.map_id]
theorem getPl_put(hc:Codec gp pp fits){p:List Stp}(h:OkPl fits p): getPl gp (putPl pp p)=(p.map cleanS,0):=by
 obtain⟨h1,h6,hs⟩:=h
 have hg:planS gp (putPl pp p)=(p.map cleanS,([],0)):=by
  unfold planS putPl;rw[numS_put (by omega) (by omega) (by unfold Oc.fitsN;simp;omega)];simp only[Int.toNat_natCast];have:=stepsS_put hc p [] hs;rw[List.append_nil] at this;exact this
 unfold getPl;rw[hg];simp only;rw[if_neg (by simp),if_neg];rintro (h|h)
 ·simp at h
 ·refine h fun x hx=>?_
  obtain⟨y,-,rfl⟩:=List.mem_map.1 hx;exact clean_clean y
theorem getPl_can(hc:Codec gp pp fits){s:List UInt8}{q:List Stp}(h:getPl gp s=(q,0)): OkPl fits q∧putPl pp q=s∧∀x∈q,cleanS x=x:=by
 unfold getPl at h;by_cases h1:(planS gp s).2.2=0
 ·rw[if_neg (by simpa using h1)] at h;by_cases h2:0<(planS gp s).2.1.length∨¬∀x∈(planS gp s).1,cleanS x=x
  ·rw[if_pos h2] at h;simp at h
  ·rw[if_neg h2] at h;simp only[Prod.mk.injEq,and_true] at h
   have hcl:∀x∈q,cleanS x=x:=by
    rw[←h];exact Classical.not_not.1 fun r=>h2 (.inr r)
   have hnil:(planS gp s).2.1=[]:=List.length_eq_zero_iff.1 (by omega)
   have hg:planS gp s=(q,([],0)):=by
    generalize planS gp s=g at *;obtain⟨a,b,c⟩:=g;simp only at h h1 hnil;subst h h1 hnil;rfl
   unfold planS at hg;obtain⟨i1,i2,i3,i4⟩:=stepsS_can hc _ hg hcl;obtain⟨n1,n2,n3,n4⟩:=numS_can (eta (numS 1 6 (s,0)) i1);refine⟨⟨by omega,by omega,i4⟩,?_,hcl⟩;unfold putPl;have e1:(numS 1 6 (s,0)).2.1=q.flatMap (putSt pp):=by rw[i2,List.append_nil]
   rw[←e1,show((q.length:Nat):Int)=(numS 1 6 (s,0)).1 by omega];exact n2.symm
 ·rw[if_pos (by simpa using h1)] at h;simp only[Prod.mk.injEq] at h;exact absurd h.2 h1
end
end Gr
namespace Gr
open Oc (be bes)
open Ga Tab
theorem fitsN_of{n:Int}(h : -2147483648≤n∧n≤2147483647): Oc.fitsN n=true:=by unfold Oc.fitsN;simp;omega
structure Item {α:Type} (rd:Rs→α×Rs) (pt:α→List UInt8) (ok:α→Prop):Prop where
 put:∀x t,ok x→rd (pt x++t,0)=(x,(t,0))
 can:∀s x t,rd s=(x,(t,0))→s.2=0∧s.1=pt x++t∧ok x
def manyS{α:Type}(rd:Rs→α×Rs): Nat→Rs→List α×Rs
 | 0,s=>([],s)
 | k+1,s=>((rd s).1::(manyS rd k (rd s).2).1,(manyS rd k (rd s).2).2)
theorem manyS_put{α:Type}{rd:Rs→α×Rs}{pt:α→List UInt8}{ok:α→Prop}(h:Item rd pt ok): ∀(l:List α) (t:List UInt8),(∀x∈l,ok x)→manyS rd l.length (l.flatMap pt++t,0)=(l,(t,0))
 | [],t,_=>rfl
 |x::l,t,hl=>by
  have h1:rd ((x::l).flatMap pt++t,0)=(x,(l.flatMap pt++t,0)):=by
   rw[List.flatMap_cons,List.append_assoc];exact h.put x _ (hl x (List.mem_cons_self ..))
  rw[List.length_cons,manyS,h1];simp only;rw[manyS_put h l t fun y hy=>hl y (List.mem_cons_of_mem _ hy)]
theorem manyS_can{α:Type}{rd:Rs→α×Rs}{pt:α→List UInt8}{ok:α→Prop}(h:Item rd pt ok): ∀(k:Nat) {s:Rs} {l:List α} {t:List UInt8},manyS rd k s=(l,(t,0))→s.2=0∧s.1=l.flatMap pt++t∧l.length=k∧∀x∈l,ok x
 |0,s,l,t,hs=>by
  unfold manyS at hs;simp only[Prod.mk.injEq] at hs;obtain⟨rfl,rfl⟩:=hs
  exact⟨rfl,rfl,rfl,fun x hx=>(by cases hx)⟩
 |k+1,s,l,t,hs=>by
  rw[manyS] at hs;simp only[Prod.mk.injEq] at hs;obtain⟨rfl,h2⟩:=hs;obtain⟨i1,i2,i3,i4⟩:=manyS_can h k (l:=(manyS rd k (rd s).2).1) (t:=t) (by rw[←h2]);obtain⟨n1,n2,n3⟩:=h.can _ _ _ (eta (rd s) i1);refine⟨n1,?_,by rw[List.length_cons,i3],fun x hx=>?_⟩
  ·rw[n2,i2,List.flatMap_cons,List.append_assoc]
  ·rcases List.mem_cons.1 hx with rfl|h3
   ·exact n3
   ·exact i4 x h3
def cntS{α:Type}(rd:Rs→α×Rs)(most:Int)(s:Rs): List α×Rs:=manyS rd (numS 0 most s).1.toNat (numS 0 most s).2
def putC{α:Type}(pt:α→List UInt8)(l:List α): List UInt8:=be l.length++l.flatMap pt
theorem cntS_item{α:Type}{rd:Rs→α×Rs}{pt:α→List UInt8}{ok:α→Prop}(h:Item rd pt ok)(most:Int)(hm:most≤2147483647): Item (cntS rd most) (putC pt) fun l=>(l.length:Int)≤most∧∀x∈l,ok x where
 put:=by
  rintro l t ⟨h1,h2⟩;unfold cntS putC;rw[List.append_assoc,numS_put (by omega) h1 (fitsN_of (by omega))];simp only[Int.toNat_natCast];exact manyS_put h l t h2
 can:=by
  intro s l t hs;unfold cntS at hs;obtain⟨i1,i2,i3,i4⟩:=manyS_can h _ hs;obtain⟨n1,n2,n3,n4⟩:=numS_can (eta (numS 0 most s) i1);refine⟨n1,?_,by omega,i4⟩;unfold putC;rw[n2,i2,List.append_assoc,show((l.length:Nat):Int)=(numS 0 most s).1 by omega]
theorem num_item(a b:Int)(ha : -2147483648≤a)(hb:b≤2147483647): Item (numS a b) be fun n=>a≤n∧n≤b where
 put:=fun n t h=>numS_put h.1 h.2 (fitsN_of (by omega)) t
 can:=fun s n t h=>by
  obtain⟨h1,h2,h3,h4⟩:=numS_can h;exact⟨h1,h2,h3,h4⟩
def pairS{α β:Type}(ra:Rs→α×Rs)(rb:Rs→β×Rs)(s:Rs): (α×β)×Rs:=(((ra s).1,(rb (ra s).2).1),(rb (ra s).2).2)
theorem pair_item{α β:Type}{ra:Rs→α×Rs}{rb:Rs→β×Rs}{pa:α→List UInt8}{pb:β→List UInt8}{oa:α→Prop}{ob:β→Prop}(ha:Item ra pa oa)(hb:Item rb pb ob): Item (pairS ra rb) (fun x=>pa x.1++pb x.2) fun x=>oa x.1∧ob x.2 where
 put:=by
  rintro⟨x,y⟩ t ⟨h1,h2⟩;unfold pairS;simp only at h1 h2 ⊢;rw[List.append_assoc,ha.put x _ h1];simp only;rw[hb.put y t h2]
 can:=by
  rintro s ⟨x,y⟩ t h;unfold pairS at h;simp only[Prod.mk.injEq] at h;obtain⟨⟨rfl,rfl⟩,h2⟩:=h
  obtain⟨b1,b2,b3⟩:=hb.can (ra s).2 _ t (by
   have:(rb (ra s).2).2.2=0:=by rw[h2]
   rw[eta (rb (ra s).2) this,h2])
  obtain⟨a1,a2,a3⟩:=ha.can s _ _ (eta (ra s) b1);exact⟨a1,by rw[a2,b2,List.append_assoc],a3,b3⟩
def mapS{α β:Type}(f:α→β)(ra:Rs→α×Rs)(s:Rs): β×Rs:=(f (ra s).1,(ra s).2)
theorem map_item{α β:Type}{ra:Rs→α×Rs}{pa:α→List UInt8}{oa:α→Prop}(ha:Item ra pa oa)(f:α→β)(g:β→α)(hgf:∀x,g (f x)=x)(hfg:∀y,f (g y)=y): Item (mapS f ra) (fun y=>pa (g y)) fun y=>oa (g y) where
 put:=by
  intro y t h;unfold mapS;rw[ha.put (g y) t h,hfg]
 can:=by
  intro s y t h;unfold mapS at h;simp only[Prod.mk.injEq] at h;obtain⟨rfl,h2⟩:=h;have h3:(ra s).2.2=0:=by rw[h2]
  obtain⟨a1,a2,a3⟩:=ha.can s (ra s).1 t (by rw[eta (ra s) h3,h2]);rw[hgf];exact⟨a1,a2,a3⟩
end Gr
namespace Gr
open Oc (be bes)
open Ga Tab
structure Ln where
 sink:Int
 frm:Int
 key:Int
 v:Val
structure Mf where
 epoch:Int
 plans:Int
 offs:List Int
 graph:List Nd
 ents:List En
 out:List Ln
 plan:List Stp
def valS:Rs→(Int×Int)×Rs:=pairS (numS (-2147483648) 2147483647) (numS (-2147483648) 2147483647)
def enS:Rs→En×Rs:=mapS (fun(x:((Int×Int)×(Int×Int))×(Int×Int))=>(⟨x.1.1.1,x.1.1.2,x.1.2,x.2⟩:En)) (pairS (pairS (pairS (numS 0 7) (numS 0 63)) valS) valS)
def lnS:Rs→Ln×Rs:=mapS (fun(x:((Int×Int)×Int)×(Int×Int))=>(⟨x.1.1.1,x.1.1.2,x.1.2,x.2⟩:Ln)) (pairS (pairS (pairS (numS 0 7) (numS 0 7)) (numS 0 63)) valS)
def txS(most:Int)(s:Rs): List UInt8×Rs :=
 if (numS 0 most s).2.2≠0 then ([],(numS 0 most s).2)
 else if (numS 0 most s).2.1.length<(numS 0 most s).1.toNat then ([],((numS 0 most s).2.1,3))
 else ((numS 0 most s).2.1.take (numS 0 most s).1.toNat,((numS 0 most s).2.1.drop (numS 0 most s).1.toNat,0))
theorem tx_item(most:Int)(hm:most≤2147483647): Item (txS most) (fun t=>be t.length++t) fun t=>(t.length:Int)≤most where
 put:=by
  intro x t h;unfold txS;rw[List.append_assoc,numS_put (by omega) h (fitsN_of (by omega))];simp
 can:=by
  intro s x t h;unfold txS at h;by_cases h1:(numS 0 most s).2.2=0
  ·rw[if_neg (by simpa using h1)] at h;by_cases h2:(numS 0 most s).2.1.length<(numS 0 most s).1.toNat
   ·rw[if_pos h2] at h;simp at h
   ·rw[if_neg h2] at h;simp only[Prod.mk.injEq,and_true] at h;obtain⟨rfl,rfl⟩:=h;obtain⟨n1,n2,n3,n4⟩:=numS_can (eta (numS 0 most s) h1)
    have hl:((numS 0 most s).2.1.take (numS 0 most s).1.toNat).length=(numS 0 most s).1.toNat:=by
     rw[List.length_take];omega
    refine⟨n1,?_,by rw[hl];omega⟩;rw[hl,Int.toNat_of_nonneg n3,List.append_assoc,List.take_append_drop];exact n2
  ·rw[if_pos (by simpa using h1)] at h;simp only[Prod.mk.injEq] at h;exact absurd (congrArg Prod.snd h.2) h1
def putV(v:Int×Int): List UInt8:=be v.1++be v.2
def okV(v:Int×Int): Prop:=(-2147483648≤v.1∧v.1≤2147483647)∧(-2147483648≤v.2∧v.2≤2147483647)
theorem val_item:Item valS putV okV:=pair_item (num_item _ _ (by decide) (by decide)) (num_item _ _ (by decide) (by decide))
def putE(x:En): List UInt8:=((be x.node++be x.key)++putV x.c0)++putV x.c1
def okE(x:En): Prop:=(((0≤x.node∧x.node≤7)∧(0≤x.key∧x.key≤63))∧okV x.c0)∧okV x.c1
theorem en_item:Item enS putE okE:=map_item (pair_item (pair_item (pair_item (num_item 0 7 (by decide) (by decide)) (num_item 0 63 (by decide) (by decide))) val_item) val_item) _ (fun(x:En)=>(((x.node,x.key),x.c0),x.c1)) (fun _=>rfl) (fun _=>rfl)
def putLn(x:Ln): List UInt8:=((be x.sink++be x.frm)++be x.key)++putV x.v
def okLn(x:Ln): Prop:=(((0≤x.sink∧x.sink≤7)∧(0≤x.frm∧x.frm≤7))∧(0≤x.key∧x.key≤63))∧okV x.v
theorem ln_item:Item lnS putLn okLn:=map_item (pair_item (pair_item (pair_item (num_item 0 7 (by decide) (by decide)) (num_item 0 7 (by decide) (by decide))) (num_item 0 63 (by decide) (by decide))) val_item) _ (fun(x:Ln)=>(((x.sink,x.frm),x.key),x.v)) (fun _=>rfl) (fun _=>rfl)
section
variable (gp:List UInt8→List Vm.Ins×Int×List UInt8) (pp:List Vm.Ins→List UInt8) (fits:List Vm.Ins→Prop)
noncomputable def plS(s:Rs): List Stp×Rs :=
 if (txS 8000 s).1=[] then ([],(txS 8000 s).2) else ((getPl gp (txS 8000 s).1).1,((txS 8000 s).2.1,(getPl gp (txS 8000 s).1).2))
def planB(p:List Stp): List UInt8:=if p=[] then [] else putPl pp p
def putP(p:List Stp): List UInt8:=be (planB pp p).length++planB pp p
def okP(p:List Stp): Prop:=p=[]∨OkPl fits p∧(∀x∈p,cleanS x=x)∧((putPl pp p).length:Int)≤8000
def putM(m:Mf): List UInt8:=be m.epoch++(be m.plans++(putC be m.offs++(putC (putNd pp) m.graph++(putC putE m.ents++(putC putLn m.out++putP pp m.plan)))))
noncomputable def manS:Rs→Mf×Rs :=
 mapS (fun(x:Int×Int×List Int×List Nd×List En×List Ln×List Stp)=>(⟨x.1,x.2.1,x.2.2.1,x.2.2.2.1,x.2.2.2.2.1,x.2.2.2.2.2.1,x.2.2.2.2.2.2⟩:Mf))
  (pairS (numS 0 2147483647) (pairS (numS 0 2147483647) (pairS (cntS (numS 0 400) 3) (pairS (cntS (nodeS gp 1) 8) (pairS (cntS enS 512) (pairS (cntS lnS 4000) (plS gp)))))))
def okM(m:Mf): Prop:=(0≤m.epoch∧m.epoch≤2147483647)∧(0≤m.plans∧m.plans≤2147483647)∧((m.offs.length:Int)≤3∧∀x∈m.offs,0≤x∧x≤400)∧((m.graph.length:Int)≤8∧∀n∈m.graph,OkB fits 1 n)∧((m.ents.length:Int)≤512∧∀x∈m.ents,okE x)∧((m.out.length:Int)≤4000∧∀x∈m.out,okLn x)∧okP pp fits m.plan
end
section
variable {gp:List UInt8→List Vm.Ins×Int×List UInt8} {pp:List Vm.Ins→List UInt8} {fits:List Vm.Ins→Prop}
theorem putPl_ne(p:List Stp): putPl pp p≠[]:=by
 unfold putPl;intro h;have:=congrArg List.length h;rw[List.length_append,Oc.be_len] at this;simp at this
theorem pl_item(hc:Codec gp pp fits): Item (plS gp) (putP pp) (okP pp fits) where
 put:=by
  intro p t h;unfold plS putP
  have hx:txS 8000 ((be (planB pp p).length++planB pp p)++t,0)=(planB pp p,(t,0)):=(tx_item 8000 (by decide)).put (planB pp p) t (by
   unfold planB;split
   ·decide
   ·rcases h with h|h
    ·exact absurd h (by assumption)
    ·exact h.2.2)
  rw[hx];simp only;by_cases hp:p=[]
  ·subst hp;rw[if_pos (show planB pp []=[] from rfl)]
  ·have e:planB pp p=putPl pp p:=if_neg hp;rw[e,if_neg (putPl_ne p)];obtain⟨h1,h2,-⟩:=h.resolve_left hp;rw[getPl_put hc h1,map_clean h2]
 can:=by
  intro s p t h;unfold plS at h;by_cases h1:(txS 8000 s).1=[]
  ·rw[if_pos h1] at h;simp only[Prod.mk.injEq] at h;obtain⟨rfl,h2⟩:=h;obtain⟨a1,a2,-⟩:=(tx_item 8000 (by decide)).can s [] t (by rw[←h1,←h2]);exact⟨a1,a2,.inl rfl⟩
  ·rw[if_neg h1] at h;simp only[Prod.mk.injEq] at h;obtain⟨h2,h3,h4⟩:=h;have hg:getPl gp (txS 8000 s).1=(p,0):=by rw[←h2,←h4]
   obtain⟨g1,g2,g3⟩:=getPl_can hc hg
   have he:(txS 8000 s).2.2=0:=by
    refine Classical.byContradiction fun he=>h1 ?_
    unfold txS at he ⊢;split
    ·rfl
    ·rename_i q1
     rw[if_neg q1] at he;split
     ·rfl
     ·rename_i q2
      rw[if_neg q2] at he;exact absurd rfl he
   obtain⟨a1,a2,a3⟩:=(tx_item 8000 (by decide)).can s (txS 8000 s).1 t (by rw[eta (txS 8000 s) he,h3])
   have hp:p≠[]:=by
    rintro rfl;have:=g1.1;simp at this
   refine⟨a1,?_,.inr ⟨g1,g3,by rw[g2];exact a3⟩⟩;unfold putP planB;rw[if_neg hp,g2];exact a2
theorem node_item(hc:Codec gp pp fits): Item (nodeS gp 1) (putNd pp) (OkB fits 1):=⟨fun n t h=>nodeS_put hc (by decide) h t,fun s n t h=>nodeS_can hc h⟩
theorem man_item(hc:Codec gp pp fits): Item (manS gp) (putM pp) (okM pp fits) :=
 map_item (pair_item (num_item 0 2147483647 (by decide) (by decide)) (pair_item (num_item 0 2147483647 (by decide) (by decide)) (pair_item (cntS_item (num_item 0 400 (by decide) (by decide)) 3 (by decide)) (pair_item (cntS_item (node_item hc) 8 (by decide)) (pair_item (cntS_item en_item 512 (by decide)) (pair_item (cntS_item ln_item 4000 (by decide)) (pl_item hc)))))))
  _ (fun(m:Mf)=>(m.epoch,m.plans,m.offs,m.graph,m.ents,m.out,m.plan)) (fun _=>rfl) (fun _=>rfl)
end
end Gr
namespace Vm
open Ga
def Inv(s:Cst): Prop:=(∀k,s.depth.getD k (-1) = -1∨(0≤s.depth.getD k (-1)∧s.depth.getD k (-1)≤8))∧∀k,0≤s.emits.getD k 0∧s.emits.getD k 0≤4
theorem getD_set{α:Type}(l:List α)(k j:Nat)(d z:α): (l.set k d).getD j z=if j=k∧k<l.length then d else l.getD j z:=by
 rw[List.getD_eq_getElem?_getD,List.getD_eq_getElem?_getD,List.getElem?_set];by_cases h:k=j
 ·subst h;by_cases h2:k<l.length
  ·simp[h2]
  ·simp[h2]
 ·have h':¬j=k:=fun e=>h e.symm
  rw[if_neg h,if_neg (fun x=>h' x.1)]
theorem Inv.come{s:Cst}(h:Inv s){n k:Nat}{d e:Int}(hd:0≤d)(he:0≤e): Inv (Vm.come n s k d e).1:=by
 unfold Vm.come;split
 ·exact h
 split
 ·exact h
 split
 ·exact h
 ·refine⟨fun j=>?_,fun j=>?_⟩
  ·show(s.depth.set k d).getD j (-1) = -1∨_;simp only[getD_set];split
   ·right;omega
   ·exact h.1 j
  ·show 0≤(s.emits.set k _).getD j 0∧(s.emits.set k _).getD j 0≤4;simp only[getD_set];split
   ·have:=h.2 k;omega
   ·exact h.2 j
theorem Inv.comes{n:Nat}{d e:Int}(hd:0≤d)(he:0≤e): ∀(l:List Nat) {s:Cst},Inv s→Inv (Vm.comes n d e l s).1
 | [],s,h=>h
 |k::l,s,h=>by
  rw[Vm.comes];split
  ·exact Inv.comes hd he l (h.come hd he)
  ·exact h.come hd he
theorem Inv.uses{s:Cst}(h:Inv s)(i:Ins): Inv (Vm.uses s i):=by
 unfold Vm.uses;split
 ·split<;>exact h
 ·exact h
theorem Inv.step{p:List Ins}{s:Cst}(h:Inv s){k:Nat}{i:Ins}(hk:s.depth.getD k (-1) ≠ -1): Inv (Vm.stepC p s k i).1:=by
 unfold Vm.stepC;split
 ·exact h
 ·rename_i ht
  have h1:=(h.1 k).resolve_left hk;have h2:=h.2 k;have:(0:Int)≤if i.1=14 then 1 else 0:=by split<;>omega
  exact Inv.comes (by omega) (by omega) _ (h.uses i)
theorem Inv.zero(n:Nat): Inv ⟨List.replicate n (-1),List.replicate n 0,0,0,false,false⟩:=by
 refine⟨fun k=>.inl ?_,fun k=>?_⟩
 ·show(List.replicate n (-1:Int)).getD k (-1) = -1;rw[List.getD_eq_getElem?_getD,List.getElem?_replicate];split<;>rfl
 ·show 0≤(List.replicate n (0:Int)).getD k 0∧(List.replicate n (0:Int)).getD k 0≤4;rw[List.getD_eq_getElem?_getD,List.getElem?_replicate];split<;>decide
theorem Inv.start(n:Nat): Inv (Vm.start n):=(Inv.zero n).come (Int.le_refl _) (Int.le_refl _)
theorem goC_at{p:List Ins}{j:Nat}{s:Cst}(h:j<p.length): goC p (p.drop j) j s=if s.depth.getD j (-1) ≠ -1 then (if (stepC p s j p[j]).2 then goC p (p.drop (j+1)) (j+1) (stepC p s j p[j]).1 else none) else goC p (p.drop (j+1)) (j+1) s:=by
 rw[List.drop_eq_getElem_cons h,goC]
end Vm
namespace Gr
section
variable {α:Type} (key:α→Int)
def swapAt(l:List α)(j:Nat): List α:=match l[j]?,l[j+1]? with
 | some x,some y=>(l.set j y).set (j+1) x
 | _,_=>l
theorem swapAt_eq{l:List α}{j:Nat}(h:j+1<l.length): swapAt l j=(l.set j (l[j+1]'h)).set (j+1) (l[j]'(by omega)):=by
 unfold swapAt;rw[List.getElem?_eq_getElem (show j<l.length by omega),List.getElem?_eq_getElem h]
theorem swapAt_len(l:List α)(j:Nat): (swapAt l j).length=l.length:=by
 unfold swapAt;split
 ·rw[List.length_set,List.length_set]
 ·rfl
theorem swapAt_get{l:List α}{j:Nat}(h:j+1<l.length)(a:Nat)(ha:a<l.length): (swapAt l j)[a]'(by rw[swapAt_len];exact ha)=if a=j then l[j+1]'h else if a=j+1 then l[j]'(by omega) else l[a]:=by
 have e:=swapAt_eq h
 have e2:(swapAt l j)[a]? = some (if a=j then l[j+1]'h else if a=j+1 then l[j]'(by omega) else l[a]):=by
  rw[e,List.getElem?_set,List.length_set,List.getElem?_set];by_cases h1:a=j+1
  ·subst h1;rw[if_pos rfl,if_pos h,if_neg (by omega),if_pos rfl]
  ·rw[if_neg (fun q=>h1 q.symm)];by_cases h2:a=j
   ·subst h2;rw[if_pos rfl,if_pos (by omega),if_pos rfl]
   ·rw[if_neg (fun q=>h2 q.symm),if_neg h2,if_neg h1,List.getElem?_eq_getElem ha]
 rw[List.getElem?_eq_getElem (by rw[swapAt_len];exact ha)] at e2;exact Option.some.inj e2
def Upto(l:List α)(n:Nat): Prop:=∀(a b:Nat) (ha:a<l.length) (hb:b<l.length),a<b→b<n→key l[a]≤key l[b]
structure Down (l:List α) (i j:Nat):Prop where
 ji:j≤i
 il:i<l.length
 so:∀(a b:Nat) (ha:a<l.length) (hb:b<l.length),a<b→b≤i→a≠j→b≠j→key l[a]≤key l[b]
 lt:∀(b:Nat) (hj:j<l.length) (hb:b<l.length),j<b→b≤i→key l[j]<key l[b]
variable {key}
theorem Down.start{l:List α}{i:Nat}(h:Upto key l i)(hi:i<l.length): Down key l i i :=
 ⟨Nat.le_refl _,hi,fun a b ha hb hab hbi _ hbj=>h a b ha hb hab (by omega),fun b _ hb h1 h2=>by omega⟩
theorem Down.step{l:List α}{i j:Nat}(h:Down key l i (j+1))(h1:j<l.length)(h2:j+1<l.length)(hlt:key l[j+1]<key l[j]): Down key (swapAt l j) i j:=by
 have hji:=h.ji;refine⟨by omega,by rw[swapAt_len];exact h.il,fun a b ha hb hab hbi haj hbj=>?_,fun b hj hb hab hbi=>?_⟩
 ·rw[swapAt_len] at ha hb;rw[swapAt_get h2 a ha,swapAt_get h2 b hb,if_neg haj,if_neg hbj];by_cases e1:a=j+1
  ·rw[if_pos e1,if_neg (by omega)];exact h.so j b h1 hb (by omega) hbi (by omega) (by omega)
  ·rw[if_neg e1];by_cases e2:b=j+1
   ·rw[if_pos e2];exact h.so a j ha h1 (by omega) (by omega) e1 (by omega)
   ·rw[if_neg e2];exact h.so a b ha hb hab hbi e1 e2
 ·rw[swapAt_len] at hj hb;rw[swapAt_get h2 j hj,swapAt_get h2 b hb,if_pos rfl,if_neg (by omega)];by_cases e2:b=j+1
  ·rw[if_pos e2];exact hlt
  ·rw[if_neg e2];exact h.lt b h2 hb (by omega) hbi
end
theorem Upto.sorted{l:List Nd}(h:Upto (·.id) l l.length): l.Pairwise fun a b=>a.id≤b.id :=
 List.pairwise_iff_getElem.2 fun i j hi hj hij=>h i j hi hj hij hj
end Gr
namespace Vm
open Ga
theorem right_of{x y:Int}(hx : -524288≤x∧x<524288)(hy : -524288≤y∧y<524288): rightV (x,y)=true:=by
 unfold rightV;simp only[into_id hx,into_id hy,decide_true,Bool.and_self]
theorem right_into(x y:Int): rightV (into x,into y)=true:=right_of (into_range x) (into_range y)
theorem right_two(op:Int)(x y:Val): rightV (two op x y)=true:=by
 unfold two addV subV mulV
 (repeat' split)<;>first|exact right_into _ _|exact right_of (by decide) (by decide)
def AllRight(s:St): Prop:=rightV s.c0=true∧rightV s.c1=true∧∀v∈s.stack,rightV v=true
theorem AllRight.push{s:St}(h:AllRight s){v:Val}(hv:rightV v=true): AllRight (push1 s v):=by
 refine⟨h.1,h.2.1,fun u hu=>?_⟩;rcases List.mem_append.1 hu with e|e
 ·exact h.2.2 u e
 ·rw[List.mem_singleton] at e;rw[e];exact hv
theorem AllRight.pop{s:St}(h:AllRight s): AllRight (pop1 s) :=
 ⟨h.1,h.2.1,fun u hu=>h.2.2 u (List.dropLast_subset _ hu)⟩
theorem AllRight.top{s:St}(h:AllRight s): rightV (top1 s)=true:=by
 unfold top1;rw[List.getLastD_eq_getLast?]
 cases e:s.stack.getLast? with
 | none=>exact right_of (by decide) (by decide)
 | some v=>exact h.2.2 v (List.mem_of_getLast? e)
theorem AllRight.cell{s:St}(h:AllRight s)(a:Int): rightV (cellAt s a)=true:=by
 unfold cellAt;split
 ·exact h.1
 ·exact h.2.1
theorem AllRight.setCell{s:St}(h:AllRight s)(a:Int){v:Val}(hv:rightV v=true): AllRight (setCellAt s a v):=by
 unfold setCellAt;split
 ·exact⟨hv,h.2.1,h.2.2⟩
 ·exact⟨h.1,hv,h.2.2⟩
theorem AllRight.jump{s:St}(h:AllRight s)(k:Int): AllRight (jump1 s k):=h
theorem AllRight.emit{s:St}(h:AllRight s)(v:Val): AllRight (emit1 s v):=h
theorem AllRight.fetch{s:St}(h:AllRight s): AllRight (fetch s):=h
theorem ite_all{α:Type}{P:α→Prop}{c:Prop}[Decidable c]{a b:α}(ha:P a)(hb:P b): P (if c then a else b):=by
 by_cases h:c
 ·rw[if_pos h];exact ha
 ·rw[if_neg h];exact hb
theorem AllRight.effect{s:St}(h:AllRight s){inp:Val}(hin:rightV inp=true){i:Ins}(hi : -524288≤i.2∧i.2<524288): AllRight (effect inp i s):=by
 unfold Vm.effect;refine ite_all (P:=AllRight) (h.push (right_of hi (by decide))) ?_;refine ite_all (P:=AllRight) (h.push (right_of (by decide) hi)) ?_;refine ite_all (P:=AllRight) (h.push hin) ?_;refine ite_all (P:=AllRight) (h.push (h.cell _)) ?_;refine ite_all (P:=AllRight) (h.pop.setCell _ h.top) ?_;refine ite_all (P:=AllRight) (ite_all (P:=AllRight) (h.pop.jump _) h.pop) ?_;refine ite_all (P:=AllRight) (h.jump _) ?_;refine ite_all (P:=AllRight) (h.pop.pop.push (right_two _ _ _)) ?_;refine ite_all (P:=AllRight) (h.pop.push (right_into _ _)) ?_;refine ite_all (P:=AllRight) (h.pop.push (right_into _ _)) ?_;refine ite_all (P:=AllRight) ((h.pop.push h.top).push h.top) ?_;refine ite_all (P:=AllRight) ((h.pop.pop.push h.top).push h.pop.top) ?_;exact ite_all (P:=AllRight) (h.pop.emit _) h.pop
theorem AllRight.exec{p:List Ins}{inp:Val}(hin:rightV inp=true)(hp:∀i∈p,-524288≤i.2∧i.2<524288): ∀(f:Nat) (s:St),AllRight s→AllRight (Vm.exec p inp f s)
 | 0,s,h=>h
 |f+1,s,h=>by
  rw[Vm.exec]
  cases e:p[s.pc]? with
  | none=>exact h
  |some i =>
   simp only;split
   ·exact h.fetch
   ·exact AllRight.exec hin hp f _ (h.fetch.effect hin (hp i (List.mem_of_getElem? e)))
theorem effect_gt{p:List Ins}{s:St}{o a:Int}(ho:1≤o∧o≤17)(inp:Val): s.pc<(effect inp (o,a) (fetch s)).pc:=by
 rw[effect_pc ho,fetch_pc]
 repeat' split
 all_goals omega
theorem exec_enough{p:List Ins}(hp:∀i∈p,0≤i.1∧i.1≤17){inp:Val}: ∀(f:Nat) (s:St),p.length-s.pc<f→exec p inp (f+1) s=exec p inp f s
 | 0,s,h=>absurd h (Nat.not_lt_zero _)
 |f+1,s,h=>by
  rw[exec,exec]
  cases e:p[s.pc]? with
  | none=>rfl
  |some i =>
   obtain⟨o,a⟩:=i;simp only;split
   ·rfl
   ·rename_i h0
    have hm:=hp _ (List.mem_of_getElem? e);simp only at hm;have hlt:s.pc<p.length:=(List.getElem?_eq_some_iff.1 e).1;have hg:=effect_gt (p:=p) (s:=s) (o:=o) (a:=a) (by omega) inp;exact exec_enough hp f _ (by omega)
theorem fits_op{p:List Ins}(h:Co.fitsI p=true): ∀i∈p,0≤i.1∧i.1≤17:=by
 intro i hi;unfold Co.fitsI at h;rw[Bool.and_eq_true] at h;have h2:=List.all_eq_true.1 h.2 i hi;unfold Co.rightI at h2;simp only[Bool.and_eq_true,decide_eq_true_eq] at h2;omega
def done(p:List Ins)(inp:Val)(s:St): St:=exec p inp (p.length+1) s
theorem done_step{p:List Ins}(hp:∀i∈p,0≤i.1∧i.1≤17){inp:Val}{s:St}{i:Ins}(h:p[s.pc]? = some i)(h0:i.1≠0): done p inp s=done p inp (effect inp i (fetch s)):=by
 obtain⟨o,a⟩:=i;have hm:=hp _ (List.mem_of_getElem? h);simp only at hm h0;have hlt:s.pc<p.length:=(List.getElem?_eq_some_iff.1 h).1;have hg:=effect_gt (p:=p) (s:=s) (o:=o) (a:=a) (by omega) inp
 have e1:done p inp s=exec p inp p.length (effect inp (o,a) (fetch s)):=by
  unfold done;rw[exec,h];exact if_neg h0
 rw[e1];exact(exec_enough hp _ _ (by omega)).symm
structure Res where
 out:List Val
 c0:Val
 c1:Val
 steps:Int
def stOf(r:Res): St:=⟨r.out,r.c0,r.c1,r.steps,0,[]⟩
def resOf(s:St): Res:=⟨s.out,s.c0,s.c1,s.steps⟩
def go(p:List Ins)(r:Res)(inp:Val): Res:=resOf (exec p inp (p.length+1) (stOf r))
def each(p:List Ins)(r:Res)(l:List Val): Res:=l.foldl (go p) r
theorem setCellAt_steps(s a v): (setCellAt s a v).steps=s.steps∧(setCellAt s a v).out=s.out:=by unfold setCellAt;split<;>exact⟨rfl,rfl⟩
theorem emit1_out(s v): (emit1 s v).out.length=s.out.length+1:=by unfold emit1;simp
theorem effect_bounds(inp:Val)(i:Ins)(s:St): (effect inp i s).steps=s.steps∧(effect inp i s).out.length≤s.out.length+1:=by
 unfold Vm.effect;have P0:∀t:St,t.steps=s.steps→t.out=s.out→t.steps=s.steps∧t.out.length≤s.out.length+1:=fun t h1 h2=>⟨h1,by rw[h2];omega⟩
 refine ite_all (P:=fun t:St=>t.steps=s.steps∧t.out.length≤s.out.length+1) (P0 _ rfl rfl) ?_;refine ite_all (P:=fun t:St=>t.steps=s.steps∧t.out.length≤s.out.length+1) (P0 _ rfl rfl) ?_;refine ite_all (P:=fun t:St=>t.steps=s.steps∧t.out.length≤s.out.length+1) (P0 _ rfl rfl) ?_;refine ite_all (P:=fun t:St=>t.steps=s.steps∧t.out.length≤s.out.length+1) (P0 _ rfl rfl) ?_;refine ite_all (P:=fun t:St=>t.steps=s.steps∧t.out.length≤s.out.length+1) (P0 _ (setCellAt_steps ..).1 (setCellAt_steps ..).2) ?_;refine ite_all (P:=fun t:St=>t.steps=s.steps∧t.out.length≤s.out.length+1) (ite_all (P:=fun t:St=>t.steps=s.steps∧t.out.length≤s.out.length+1) (P0 _ rfl rfl) (P0 _ rfl rfl)) ?_;refine ite_all (P:=fun t:St=>t.steps=s.steps∧t.out.length≤s.out.length+1) (P0 _ rfl rfl) ?_;refine ite_all (P:=fun t:St=>t.steps=s.steps∧t.out.length≤s.out.length+1) (P0 _ rfl rfl) ?_;refine ite_all (P:=fun t:St=>t.steps=s.steps∧t.out.length≤s.out.length+1) (P0 _ rfl rfl) ?_;refine ite_all (P:=fun t:St=>t.steps=s.steps∧t.out.length≤s.out.length+1) (P0 _ rfl rfl) ?_;refine ite_all (P:=fun t:St=>t.steps=s.steps∧t.out.length≤s.out.length+1) (P0 _ rfl rfl) ?_;refine ite_all (P:=fun t:St=>t.steps=s.steps∧t.out.length≤s.out.length+1) (P0 _ rfl rfl) ?_;refine ite_all (P:=fun t:St=>t.steps=s.steps∧t.out.length≤s.out.length+1) ⟨rfl,by rw[emit1_out];exact Nat.le_refl _⟩ (P0 _ rfl rfl)
end Vm
namespace Vm
open Ga
theorem goC_inv{p:List Ins}{c:Cst}: ∀(l:List Ins) (k:Nat) (s:Cst),goC p l k s=some c→Inv s→Inv c
 | [],_,s,h,hi=>by cases h;exact hi
 |i::l,k,s,h,hi=>by
  rw[goC] at h;split at h
  ·rename_i hk
   split at h
   ·exact goC_inv l _ _ h (hi.step hk)
   ·cases h
  ·exact goC_inv l _ _ h hi
theorem checkC_inv{p:List Ins}{c:Cst}(h:checkC p=some c): Inv c:=by
 unfold checkC at h;split at h
 ·exact goC_inv p 0 _ h (Inv.start _)
 ·cases h
theorem checkC_fits{p:List Ins}{c:Cst}(h:checkC p=some c): Co.fitsI p=true:=by
 unfold checkC at h;split at h
 ·assumption
 ·cases h
structure At (l:List Ins) (c:Cst) (inp:Val) (s0:St) (st:St):Prop where
 dn:done l inp st=done l inp s0
 gd:Good l c st
 ot:st.out.length≤s0.out.length+st.pc
 s1:s0.steps≤st.steps
 s2:st.steps≤s0.steps+st.pc
 pc:st.pc≤48
theorem At.len{l:List Ins}{c:Cst}(hc:checkC l=some c){inp:Val}{s0 st:St}(h:At l c inp s0 st)(hp:st.pc<l.length): st.stack.length≤8:=by
 have h1:=h.gd hp;have h2:=(checkC_inv hc).1 st.pc;omega
theorem right_parts'{l:List Ins}{c:Cst}(hc:checkC l=some c){k:Nat}{x a:Int}(hi:l[k]? = some (x,a)): 0≤x∧x≤17 ∧ -524288≤a∧a≤524287∧(x=15∨x=16→1≤a∧a≤24)∧(x=4∨x=5→a=0∨a=1):=by
 have hf:=checkC_fits hc;have h:=(Co.fits_parts hf).2 _ (List.mem_of_getElem? hi);unfold Co.rightI Co.lo Co.hi at h;simp only[Bool.and_eq_true,decide_eq_true_eq] at h;grind
theorem At.next{l:List Ins}{c:Cst}(hc:checkC l=some c){inp:Val}{s0 st:St}(h:At l c inp s0 st){x a:Int}(hi:l[st.pc]? = some (x,a))(hx:x≠0):
  takes x≤st.stack.length∧At l c inp s0 (effect inp (x,a) (fetch st))∧st.pc<(effect inp (x,a) (fetch st)).pc:=by
 have hf:=checkC_fits hc;obtain⟨r0,r1,r2,r3,r4,r5⟩:=right_parts' hc hi;have hlt:st.pc<l.length:=(List.getElem?_eq_some_iff.1 hi).1;have h24:=(Co.fits_parts hf).1;obtain⟨g1,g2⟩:=good_effect hc h.gd hi ⟨by omega,r1⟩ inp;have hpc:=effect_pc (s:=fetch st) (a:=a) ⟨show 1≤x by omega,r1⟩ inp;have hgt:=effect_gt (p:=l) (s:=st) (a:=a) ⟨show 1≤x by omega,r1⟩ inp;have hb:=effect_bounds inp (x,a) (fetch st);have e1:(fetch st).steps=st.steps+1:=rfl;have e2:(fetch st).out=st.out:=rfl;have e3:(fetch st).pc=st.pc+1:=rfl;rw[e1,e2] at hb;rw[e3] at hpc
 have hle:(effect inp (x,a) (fetch st)).pc≤st.pc+25:=by
  rw[hpc];by_cases h16:x=16
  ·have:=r4 (.inr h16);rw[if_pos h16];omega
  ·by_cases h15:x=15
   ·have:=r4 (.inl h15);rw[if_neg h16,if_pos h15];split<;>omega
   ·rw[if_neg h16,if_neg h15];omega
 have:=h.ot;have:=h.s1;have:=h.s2;exact⟨g1,⟨(done_step (fits_op hf) hi hx).symm.trans h.dn,g2,by omega,by omega,by omega,by omega⟩,hgt⟩
end Vm
namespace Vm
open Ga
theorem safe_fits{l:List Ins}(h:safe l=true): Co.fitsI l=true:=by
 unfold safe at h;obtain⟨c,hc⟩:=Option.isSome_iff_exists.1 h;exact checkC_fits hc
def Upto(l:List Ins)(c0 c1:Val)(ins:List Val)(k:Nat): Prop:=0<k→safe l=true∧([c0,c1].all rightV)=true∧(ins.take k).all rightV=true
end Vm
namespace Vm
open Ga
theorem come_emits_other{n:Nat}{s:Cst}{k:Nat}{d e:Int}{j:Nat}(h:j≠k): (come n s k d e).1.emits.getD j 0=s.emits.getD j 0:=by
 unfold come;split
 ·rfl
 split
 ·rfl
 split
 ·rfl
 ·show(s.emits.set k _).getD j 0=_;rw[getD_set,if_neg fun x=>h x.1]
theorem come_emits_le{n:Nat}{s:Cst}{k:Nat}{d e:Int}{j:Nat}: s.emits.getD j 0≤(come n s k d e).1.emits.getD j 0:=by
 unfold come;split
 ·exact Int.le_refl _
 split
 ·exact Int.le_refl _
 split
 ·exact Int.le_refl _
 ·show _≤(s.emits.set k _).getD j 0;rw[getD_set];split
  ·rename_i h;rw[h.1];omega
  ·exact Int.le_refl _
theorem come_emits_set{n:Nat}{s:Cst}{k:Nat}{d e:Int}(hb:(come n s k d e).2=true)(hk:k<n)(hl:s.emits.length=n): e≤(come n s k d e).1.emits.getD k 0:=by
 unfold come at hb ⊢;split at hb
 ·cases hb
 split at hb
 ·omega
 split at hb
 ·cases hb
 ·rename_i h1 h2 h3
  rw[if_neg h1,if_neg h2,if_neg h3];show e≤(s.emits.set k _).getD k 0;rw[getD_set,if_pos ⟨rfl,by omega⟩];omega
theorem come_ok{n:Nat}{s:Cst}{k:Nat}{d e:Int}(hb:(come n s k d e).2=true): e≤4:=by
 unfold come at hb;split at hb
 ·cases hb
 ·omega
theorem come_elen(n:Nat)(s:Cst)(k:Nat)(d e:Int): (come n s k d e).1.emits.length=s.emits.length:=by
 unfold come;split
 ·rfl
 split
 ·rfl
 split
 ·rfl
 ·exact List.length_set ..
theorem comes_elen(n:Nat)(d e:Int): ∀(l:List Nat) (s:Cst),(comes n d e l s).1.emits.length=s.emits.length
 | [],s=>rfl
 |k::l,s=>by
  rw[comes];split
  ·exact(comes_elen n d e l _).trans (come_elen ..)
  ·exact come_elen ..
theorem comes_emits_le{n:Nat}{d e:Int}{j:Nat}: ∀(l:List Nat) (s:Cst),s.emits.getD j 0≤(comes n d e l s).1.emits.getD j 0
 | [],s=>Int.le_refl _
 |k::l,s=>by
  rw[comes];split
  ·exact Int.le_trans come_emits_le (comes_emits_le l _)
  ·exact come_emits_le
theorem comes_emits_low{n:Nat}{d e:Int}{j:Nat}: ∀(l:List Nat) (s:Cst),(∀k∈l,j<k)→(comes n d e l s).1.emits.getD j 0=s.emits.getD j 0
 | [],s,_=>rfl
 |k::l,s,h=>by
  have hk:=h k (List.mem_cons_self ..);rw[comes];split
  ·exact(comes_emits_low l _ fun a ha=>h a (List.mem_cons_of_mem _ ha)).trans (come_emits_other (by omega))
  ·exact come_emits_other (by omega)
theorem comes_emits_set{n:Nat}{d e:Int}: ∀(l:List Nat) (s:Cst),s.emits.length=n→(comes n d e l s).2=true→∀k∈l,e≤4∧(k<n→e≤(comes n d e l s).1.emits.getD k 0)
 | [],s,_,_,k,hk=>by cases hk
 |a::l,s,hl,hb,k,hk=>by
  rw[comes] at hb ⊢;split at hb
  ·rename_i ha
   rw[if_pos ha];rcases List.mem_cons.1 hk with e1|e1
   ·subst e1;exact⟨come_ok ha,fun hn=>Int.le_trans (come_emits_set ha hn hl) (comes_emits_le l _)⟩
   ·exact comes_emits_set l _ ((come_elen ..).trans hl) hb k e1
  ·cases hb
theorem uses_emits(s:Cst)(i:Ins): (uses s i).emits=s.emits:=by
 unfold uses;split
 ·split<;>rfl
 ·rfl
theorem stepC_elen(p:List Ins)(s:Cst)(k:Nat)(i:Ins): (stepC p s k i).1.emits.length=s.emits.length:=by
 unfold stepC;split
 ·rfl
 ·rw[comes_elen,uses_emits]
theorem stepC_emits_le{p:List Ins}{s:Cst}{k:Nat}{i:Ins}{j:Nat}: s.emits.getD j 0≤(stepC p s k i).1.emits.getD j 0:=by
 unfold stepC;split
 ·exact Int.le_refl _
 ·have:=comes_emits_le (n:=p.length) (d:=s.depth.getD k (-1)-takes i.1+leaves i.1) (e:=s.emits.getD k 0+if i.1=14 then 1 else 0) (j:=j) (next p k i) (uses s i);rw[uses_emits] at this;exact this
theorem stepC_emits_low{p:List Ins}{s:Cst}{k:Nat}{i:Ins}{j:Nat}(hk:k<p.length)(hj:j≤k): (stepC p s k i).1.emits.getD j 0=s.emits.getD j 0:=by
 unfold stepC;split
 ·rfl
 ·rw[comes_emits_low _ _ (fun a ha=>by have:=next_gt hk a ha;omega),uses_emits]
theorem goC_emits_le{p:List Ins}{c:Cst}{j:Nat}: ∀(l:List Ins) (k:Nat) (s:Cst),goC p l k s=some c→s.emits.getD j 0≤c.emits.getD j 0
 | [],_,s,h=>by cases h;exact Int.le_refl _
 |i::l,k,s,h=>by
  rw[goC] at h;split at h
  ·split at h
   ·exact Int.le_trans stepC_emits_le (goC_emits_le l _ _ h)
   ·cases h
  ·exact goC_emits_le l _ _ h
theorem goC_emits_low{p:List Ins}{c:Cst}{j:Nat}: ∀(l:List Ins) (k:Nat) (s:Cst),goC p l k s=some c→k+l.length=p.length→j<k→c.emits.getD j 0=s.emits.getD j 0
 | [],_,s,h,_,_=>by cases h;rfl
 |i::l,k,s,h,hl,hj=>by
  rw[List.length_cons] at hl;rw[goC] at h;split at h
  ·split at h
   ·exact(goC_emits_low l _ _ h (by omega) (by omega)).trans (stepC_emits_low (by omega) (by omega))
   ·cases h
  ·exact goC_emits_low l _ _ h (by omega) (by omega)
def ESound(p:List Ins)(c:Cst)(k:Nat)(i:Ins): Prop :=
 c.depth.getD k (-1) ≠ -1→∀a∈next p k i,c.emits.getD k 0+(if i.1=14 then 1 else 0)≤4∧(a<p.length→c.emits.getD k 0+(if i.1=14 then 1 else 0)≤c.emits.getD a 0)
theorem goC_esound{p:List Ins}{c:Cst}: ∀(l:List Ins) (k:Nat) (s:Cst),goC p l k s=some c→k+l.length=p.length→s.emits.length=p.length→∀j i,l[j]? = some i→ESound p c (k+j) i
 | [],_,s,_,_,_,j,i,hj=>by simp at hj
 |i0::l,k,s,h,hl,hd,j,i,hj=>by
  rw[List.length_cons] at hl;rw[goC] at h
  cases j with
  |succ j =>
   rw[List.getElem?_cons_succ] at hj;have e:k+(j+1)=k+1+j:=by omega
   rw[e];split at h
   ·split at h
    ·exact goC_esound l _ _ h (by omega) ((stepC_elen ..).trans hd) j i hj
    ·cases h
   ·exact goC_esound l _ _ h (by omega) hd j i hj
  |zero =>
   rw[List.getElem?_cons_zero] at hj;cases hj;intro hk;rw[Nat.add_zero] at hk ⊢;split at h
   ·rename_i hs
    split at h
    ·rename_i hb
     have e1:c.emits.getD k 0=s.emits.getD k 0:=(goC_emits_low l _ _ h (by omega) (by omega)).trans (stepC_emits_low (by omega) (by omega));rw[e1];intro a ha;have hb':=hb;unfold stepC at hb';split at hb'
     ·cases hb'
     ·rename_i ht
      obtain⟨h1,h2⟩:=comes_emits_set (next p k i0) (uses s i0) (by rw[uses_emits];exact hd) hb' a ha;refine⟨h1,fun hal=>Int.le_trans ?_ (goC_emits_le l _ _ h)⟩
      have e2:(stepC p s k i0).1=(comes p.length (s.depth.getD k (-1)-takes i0.1+leaves i0.1) (s.emits.getD k 0+if i0.1=14 then 1 else 0) (next p k i0) (uses s i0)).1:=by
       unfold stepC;rw[if_neg ht]
      rw[e2];exact h2 hal
    ·cases h
   ·rename_i hs
    exact absurd ((goC_low l _ _ h (by omega) (by omega)).trans (Classical.byContradiction fun x=>hs x)) hk
theorem checkC_esound{p:List Ins}{c:Cst}(h:checkC p=some c){k:Nat}{i:Ins}(hi:p[k]? = some i): ESound p c k i:=by
 unfold checkC at h;split at h
 ·have:=goC_esound p 0 _ h (by omega) ((come_elen ..).trans List.length_replicate) k i hi
  rwa [Nat.zero_add] at this
 ·cases h
end Vm
namespace Vm
open Ga
structure Closed (l:List Ins) (M:Nat→Int→Int→Prop):Prop where
 zero:M 0 0 0
 ok:∀k d e,M k d e→d≤8∧0≤e∧e≤4∧k≤l.length
 one:∀k d e d' e',M k d e→M k d' e'→k<l.length→d=d'
 enough:∀k d e i,M k d e→l[k]? = some i→(takes i.1:Int)≤d
 next:∀k d e i,M k d e→l[k]? = some i→∀a∈next l k i,M a (d-takes i.1+leaves i.1) (e+if i.1=14 then 1 else 0)
structure Real (n:Nat) (M:Nat→Int→Int→Prop) (s:Cst):Prop where
 dl:s.depth.length=n
 el:s.emits.length=n
 m:∀j,s.depth.getD j (-1) ≠ -1→M j (s.depth.getD j (-1)) (s.emits.getD j 0)
 z:∀j,s.depth.getD j (-1) = -1→s.emits.getD j 0=0
theorem Real.come{l:List Ins}{M:Nat→Int→Int→Prop}(h:Closed l M){s:Cst}(hr:Real l.length M s){k:Nat}{d e:Int}(hm:M k d e)(hd:0≤d): (come l.length s k d e).2=true∧Real l.length M (come l.length s k d e).1:=by
 obtain⟨h1,h2,h3,h4⟩:=h.ok k d e hm;unfold Vm.come;rw[if_neg (by omega)];by_cases hk:k=l.length
 ·rw[if_pos hk];exact⟨rfl,hr.dl,hr.el,hr.m,hr.z⟩
 rw[if_neg hk];have hkl:k<l.length:=by omega
 have hone:¬(s.depth.getD k (-1) ≠ -1∧s.depth.getD k (-1)≠d):=fun hh=>hh.2 (h.one k _ _ _ _ (hr.m k hh.1) hm hkl)
 rw[if_neg hone];refine⟨rfl,by simp[hr.dl],by simp[hr.el],fun j hj=>?_,fun j hj=>?_⟩
 ·show M j ((s.depth.set k d).getD j (-1)) ((s.emits.set k (max (s.emits.getD k 0) e)).getD j 0);have hj':(s.depth.set k d).getD j (-1) ≠ -1:=hj;rw[getD_set] at hj' ⊢;rw[getD_set];by_cases hjk:j=k
  ·subst hjk;rw[if_pos ⟨rfl,by rw[hr.dl];exact hkl⟩,if_pos ⟨rfl,by rw[hr.el];exact hkl⟩];by_cases hu:s.depth.getD j (-1) = -1
   ·rw[hr.z j hu,show max 0 e=e by omega];exact hm
   ·have hd2:s.depth.getD j (-1)=d:=Classical.byContradiction fun x=>hone ⟨hu,x⟩
    have:=hr.m j hu;rw[hd2] at this;rcases Int.le_total (s.emits.getD j 0) e with x|x
    ·rw[show max (s.emits.getD j 0) e=e by omega];exact hm
    ·rw[show max (s.emits.getD j 0) e=s.emits.getD j 0 by omega];exact this
  ·rw[if_neg (fun x=>hjk x.1)] at hj' ⊢;rw[if_neg (fun x=>hjk x.1)];exact hr.m j hj'
 ·show(s.emits.set k (max (s.emits.getD k 0) e)).getD j 0=0;have hj':(s.depth.set k d).getD j (-1) = -1:=hj;rw[getD_set] at hj';rw[getD_set];by_cases hjk:j=k
  ·subst hjk;rw[if_pos ⟨rfl,by rw[hr.dl];exact hkl⟩] at hj';omega
  ·rw[if_neg (fun x=>hjk x.1)] at hj' ⊢;exact hr.z j hj'
theorem Real.comes{l:List Ins}{M:Nat→Int→Int→Prop}(h:Closed l M){d e:Int}(hd:0≤d): ∀(bs:List Nat) {s:Cst},Real l.length M s→(∀a∈bs,M a d e)→(comes l.length d e bs s).2=true∧Real l.length M (comes l.length d e bs s).1
 | [],s,hr,_=>⟨rfl,hr⟩
 |a::bs,s,hr,ha=>by
  obtain⟨h1,h2⟩:=hr.come h (ha a (List.mem_cons_self ..)) hd;rw[Vm.comes,if_pos h1];exact Real.comes h hd bs h2 fun b hb=>ha b (List.mem_cons_of_mem _ hb)
theorem Real.uses{n:Nat}{M:Nat→Int→Int→Prop}{s:Cst}(hr:Real n M s)(i:Ins): Real n M (uses s i):=by
 have h1:=uses_depth s i;have h2:=uses_emits s i;exact⟨by rw[h1];exact hr.dl,by rw[h2];exact hr.el,by rw[h1,h2];exact hr.m,by rw[h1,h2];exact hr.z⟩
theorem Real.step{l:List Ins}{M:Nat→Int→Int→Prop}(h:Closed l M){s:Cst}(hr:Real l.length M s){k:Nat}{i:Ins}(hi:l[k]? = some i)(hk:s.depth.getD k (-1) ≠ -1): (stepC l s k i).2=true∧Real l.length M (stepC l s k i).1:=by
 have hm:=hr.m k hk;have he:=h.enough k _ _ i hm hi;unfold stepC;rw[if_neg (by omega)];exact(hr.uses i).comes h (by omega) (Vm.next l k i) fun a ha=>h.next k _ _ i hm hi a ha
theorem goC_real{l:List Ins}{M:Nat→Int→Int→Prop}(h:Closed l M): ∀(r:List Ins) (k:Nat) (s:Cst),(∀j i,r[j]? = some i→l[k+j]? = some i)→Real l.length M s→(goC l r k s).isSome=true
 | [],k,s,_,_=>rfl
 |i::r,k,s,hl,hr=>by
  have hi:l[k]? = some i:=by have:=hl 0 i rfl;rwa [Nat.add_zero] at this
  have hn:∀j i',r[j]? = some i'→l[k+1+j]? = some i':=fun j i' hj=>by
   have:=hl (j+1) i' (by rw[List.getElem?_cons_succ];exact hj)
   rwa [show k+(j+1)=k+1+j by omega] at this
  rw[goC];split
  ·rename_i hk
   obtain⟨h1,h2⟩:=hr.step h hi hk;rw[if_pos h1];exact goC_real h r (k+1) _ hn h2
  ·exact goC_real h r (k+1) _ hn hr
theorem safe_of_closed{l:List Ins}(hf:Co.fitsI l=true){M:Nat→Int→Int→Prop}(h:Closed l M): safe l=true:=by
 unfold safe checkC;rw[if_pos hf];refine goC_real h l 0 (start l.length) (fun j i hj=>by rwa [Nat.zero_add]) ?_
 have h0:Real l.length M ⟨List.replicate l.length (-1),List.replicate l.length 0,0,0,false,false⟩:=by
  have e1:∀j,(List.replicate l.length (-1:Int)).getD j (-1) = -1:=fun j=>by
   rw[List.getD_eq_getElem?_getD,List.getElem?_replicate];split<;>rfl
  have e2:∀j,(List.replicate l.length (0:Int)).getD j 0=0:=fun j=>by
   rw[List.getD_eq_getElem?_getD,List.getElem?_replicate];split<;>rfl
  exact⟨List.length_replicate,List.length_replicate,fun j hj=>absurd (e1 j) hj,fun j _=>e2 j⟩
 exact(h0.come h h.zero (Int.le_refl _)).2
def Snd(l:List Ins)(c:Cst)(k:Nat)(d e:Int): Prop:=0≤e∧d≤8∧e≤4∧k≤l.length∧(k<l.length→c.depth.getD k (-1)=d∧0≤d∧e≤c.emits.getD k 0)
theorem come_deep{n:Nat}{s:Cst}{k:Nat}{d e:Int}(hb:(come n s k d e).2=true): d≤8:=by
 unfold come at hb;split at hb
 ·cases hb
 ·omega
theorem comes_deep{n:Nat}{d e:Int}: ∀(l:List Nat) (s:Cst),(comes n d e l s).2=true→∀k∈l,d≤8
 | [],s,_,k,hk=>by cases hk
 |a::l,s,hb,k,hk=>by
  rw[comes] at hb;split at hb
  ·rename_i ha
   exact come_deep ha
  ·cases hb
def DSound(p:List Ins)(c:Cst)(k:Nat)(i:Ins): Prop:=c.depth.getD k (-1) ≠ -1→∀a∈next p k i,c.depth.getD k (-1)-takes i.1+leaves i.1≤8
theorem goC_dsound{p:List Ins}{c:Cst}: ∀(l:List Ins) (k:Nat) (s:Cst),goC p l k s=some c→k+l.length=p.length→∀j i,l[j]? = some i→DSound p c (k+j) i
 | [],_,s,_,_,j,i,hj=>by simp at hj
 |i0::l,k,s,h,hl,j,i,hj=>by
  rw[List.length_cons] at hl;rw[goC] at h
  cases j with
  |succ j =>
   rw[List.getElem?_cons_succ] at hj;have e:k+(j+1)=k+1+j:=by omega
   rw[e];split at h
   ·split at h
    ·exact goC_dsound l _ _ h (by omega) j i hj
    ·cases h
   ·exact goC_dsound l _ _ h (by omega) j i hj
  |zero =>
   rw[List.getElem?_cons_zero] at hj;cases hj;intro hk;rw[Nat.add_zero] at hk ⊢;split at h
   ·rename_i hs
    split at h
    ·rename_i hb
     have e1:c.depth.getD k (-1)=s.depth.getD k (-1):=(goC_low l _ _ h (by omega) (by omega)).trans (stepC_low (by omega) (by omega));rw[e1];intro a ha;unfold stepC at hb;split at hb
     ·cases hb
     ·exact comes_deep (next p k i0) (uses s i0) hb a ha
    ·cases h
   ·rename_i hs
    exact absurd ((goC_low l _ _ h (by omega) (by omega)).trans (Classical.byContradiction fun x=>hs x)) hk
theorem checkC_dsound{p:List Ins}{c:Cst}(h:checkC p=some c){k:Nat}{i:Ins}(hi:p[k]? = some i): DSound p c k i:=by
 unfold checkC at h;split at h
 ·have:=goC_dsound p 0 _ h (by omega) k i hi
  rwa [Nat.zero_add] at this
 ·cases h
theorem snd_zero{l:List Ins}{c:Cst}(h:checkC l=some c): Snd l c 0 0 0 :=
 ⟨Int.le_refl _,by decide,by decide,Nat.zero_le _,fun hl=>⟨checkC_zero h hl,Int.le_refl _,((checkC_inv h).2 0).1⟩⟩
theorem snd_enough{l:List Ins}{c:Cst}(h:checkC l=some c){k:Nat}{d e:Int}(hs:Snd l c k d e){i:Ins}(hi:l[k]? = some i): (takes i.1:Int)≤d:=by
 have hlt:k<l.length:=(List.getElem?_eq_some_iff.1 hi).1;obtain⟨h1,h2,_⟩:=hs.2.2.2.2 hlt;have:=(checkC_sound h hi (by rw[h1];omega)).1
 rwa [h1] at this
theorem next_le'{p:List Ins}{k:Nat}{i:Ins}(hk:k<p.length): ∀a∈next p k i,a≤p.length:=by
 intro a ha;unfold next at ha
 split at ha
 ·cases ha
 split at ha
 ·rw[List.mem_singleton] at ha;omega
 split at ha
 ·rcases List.mem_cons.1 ha with e|e
  ·omega
  ·rw[List.mem_singleton] at e;omega
 ·rw[List.mem_singleton] at ha;omega
theorem snd_next{l:List Ins}{c:Cst}(h:checkC l=some c){k:Nat}{d e:Int}(hs:Snd l c k d e){i:Ins}(hi:l[k]? = some i): ∀a∈next l k i,Snd l c a (d-takes i.1+leaves i.1) (e+if i.1=14 then 1 else 0):=by
 intro a ha;have hlt:k<l.length:=(List.getElem?_eq_some_iff.1 hi).1;obtain⟨h1,h2,h3⟩:=hs.2.2.2.2 hlt;have hk:c.depth.getD k (-1) ≠ -1:=by rw[h1];omega
 obtain⟨s1,s2⟩:=checkC_sound h hi hk;obtain⟨e1,e2⟩:=checkC_esound h hi hk a ha;have d1:=checkC_dsound h hi hk a ha;rw[h1] at s1 s2 d1;have hp:(0:Int)≤if i.1=14 then 1 else 0:=by split<;>decide
 have h0:=hs.1;refine⟨by omega,d1,by omega,next_le' hlt a ha,fun hal=>⟨s2 a ha hal,by omega,Int.le_trans (by omega) (e2 hal)⟩⟩
end Vm
namespace Vm
open Ga
theorem right_parts{v:Val}(h:rightV v=true): into v.1=v.1∧into v.2=v.2:=by
 unfold rightV at h;simp only[Bool.and_eq_true,decide_eq_true_eq] at h;exact⟨h.1.symm,h.2.symm⟩
end Vm
namespace Vm
open Ga
abbrev Plc:=Int×Int×Int
def okP(n:Nat)(x:Plc): Prop:=0≤x.1∧x.1≤n∧0≤x.2.1∧x.2.1≤8∧0≤x.2.2∧x.2.2≤4
def numP(x:Plc): Nat:=(x.1*45+x.2.1*5+x.2.2).toNat
theorem numP_inj{n:Nat}{x y:Plc}(hx:okP n x)(hy:okP n y)(h:numP x=numP y): x=y:=by
 obtain⟨a,b,c⟩:=x;obtain⟨d,e,f⟩:=y;unfold okP at hx hy;unfold numP at h;simp only at hx hy h;have h1:a*45+b*5+c=d*45+e*5+f:=by omega
 have e1:a=d:=by omega
 subst e1;have e2:b=e:=by omega
 subst e2;have e3:c=f:=by omega
 rw[e3]
def free(M:List Plc): Nat:=(List.range 1125).countP fun k=> !(M.map numP).contains k
theorem countP_lt{p q:Nat→Bool}: ∀(L:List Nat),(∀k,q k=true→p k=true)→∀a∈L,p a=true→q a=false→L.countP q<L.countP p
 | [],_,a,ha,_,_=>by cases ha
 |b::L,h,a,ha,hp,hq=>by
  have hm:=List.countP_mono_left (l:=L) (p:=q) (q:=p) fun x _=>h x
  rw[List.countP_cons,List.countP_cons];rcases List.mem_cons.1 ha with e|e
  ·subst e;rw[hp,hq];simp;omega
  ·have:=countP_lt L h a e hp hq;cases hb:q b
   ·simp;omega
   ·rw[h b hb];simp;omega
theorem free_cons{n:Nat}(hn:n≤24){M:List Plc}{x:Plc}(hM:∀y∈M,okP n y)(hx:okP n x)(hnew:x∉M): free (x::M)<free M:=by
 unfold free;refine countP_lt _ (fun k hk=>?_) (numP x) (List.mem_range.2 ?_) ?_ ?_
 ·simp at hk ⊢;exact hk.2
 ·unfold okP at hx;unfold numP;omega
 ·simp;intro a b c hm he;exact hnew (numP_inj (hM _ hm) hx he▸hm)
 ·simp
theorem free_le(M:List Plc): free M≤1125:=by
 unfold free;have:=List.countP_le_length (l:=List.range 1125) (p:=fun k=> !(M.map numP).contains k)
 rwa [List.length_range] at this
def lead(k:Nat)(d e:Int)(i:Ins)(a:Nat): Plc:=((a:Int),d-takes i.1+leaves i.1,e+if i.1=14 then 1 else 0)
structure Gone (l:List Ins) (M T:List Plc) (dep:List Int):Prop where
 len:dep.length=l.length
 okM:∀x∈M,okP l.length x
 okT:∀x∈T,0≤x.1∧x.1≤l.length∧0≤x.2.1∧x.2.1≤10∧0≤x.2.2∧x.2.2≤5
 fr:M.length+free M≤1125
 tl:T.length≤M.length+1
 zero:((0,0,0):Plc)∈M∨((0,0,0):Plc)∈T
 one:∀(k:Nat) (d e:Int),((k:Int),d,e)∈M→k<l.length→dep.getD k (-1)=d
 dm:∀(k:Nat),0≤dep.getD k (-1)→∃e,((k:Int),dep.getD k (-1),e)∈M
 enough:∀(k:Nat) (d e:Int) (i:Ins),((k:Int),d,e)∈M→l[k]? = some i→(takes i.1:Int)≤d
 next:∀(k:Nat) (d e:Int) (i:Ins),((k:Int),d,e)∈M→l[k]? = some i→∀a∈next l k i,lead k d e i a∈M∨lead k d e i a∈T
 snd:∀c,checkC l=some c→∀(k:Nat) (d e:Int),((k:Int),d,e)∈M∨((k:Int),d,e)∈T→Snd l c k d e
theorem Gone.start(l:List Ins): Gone l [] [(0,0,0)] (List.replicate l.length (-1)) where
 len:=List.length_replicate
 okM:=fun x hx=>by cases hx
 okT:=fun x hx=>by rw[List.mem_singleton] at hx;subst hx;exact⟨by decide,by simp,by decide,by decide,by decide,by decide⟩
 fr:=by have:=free_le [];simpa using this
 tl:=Nat.le_refl _
 zero:=.inr (List.mem_singleton.2 rfl)
 one:=fun k d e h=>by cases h
 dm:=fun k h=>by
  rw[List.getD_eq_getElem?_getD,List.getElem?_replicate] at h;split at h<;>simp at h
 enough:=fun k d e i h=>by cases h
 next:=fun k d e i h=>by cases h
 snd:=fun c hc k d e h=>by
  rcases h with h|h
  ·cases h
  ·rw[List.mem_singleton] at h;simp only[Prod.mk.injEq] at h;obtain⟨h1,rfl,rfl⟩:=h;obtain rfl:k=0:=by omega
   exact snd_zero hc
section
variable {l:List Ins} {M T:List Plc} {dep:List Int} {x:Plc} {k:Nat} {d e:Int}
theorem mem_back{y:Plc}(h:y∈M∨y∈T++[x])(hx:x∈M): y∈M∨y∈T:=by
 rcases h with h|h
 ·exact .inl h
 ·rcases List.mem_append.1 h with h|h
  ·exact .inr h
  ·rw[List.mem_singleton] at h;exact .inl (h▸hx)
theorem Gone.skip(h:Gone l M (T++[x]) dep)(hx:x∈M): Gone l M T dep where
 len:=h.len
 okM:=h.okM
 okT:=fun y hy=>h.okT y (List.mem_append_left _ hy)
 fr:=h.fr
 tl:=by have:=h.tl;rw[List.length_append] at this;simp at this;omega
 zero:=mem_back h.zero hx
 one:=h.one
 dm:=h.dm
 enough:=h.enough
 next:=fun k d e i hm hi a ha=>mem_back (h.next k d e i hm hi a ha) hx
 snd:=fun c hc k d e hm=>h.snd c hc k d e (hm.imp id fun q=>List.mem_append_left _ q)
theorem Gone.at(h:Gone l M (T++[((k:Int),d,e)]) dep): k≤l.length∧0≤d∧d≤10∧0≤e∧e≤5:=by
 obtain⟨h1,h2,h3,h4,h5,h6⟩:=h.okT _ (List.mem_append_right _ (List.mem_singleton.2 rfl));simp only at h1 h2 h3 h4 h5 h6;exact⟨by omega,h3,h4,h5,h6⟩
theorem unsafe_of{l:List Ins}(h:∀c,checkC l=some c→False): safe l=false:=by
 unfold safe
 cases hc:checkC l with
 | none=>rfl
 | some c=>exact absurd (h c hc) id
theorem Gone.deep(h:Gone l M (T++[((k:Int),d,e)]) dep)(hd:8<d∨4<e): safe l=false :=
 unsafe_of fun c hc=>by
  obtain⟨_,h1,h2,_⟩:=h.snd c hc k d e (.inr (List.mem_append_right _ (List.mem_singleton.2 rfl)));omega
theorem Gone.clash(h:Gone l M (T++[((k:Int),d,e)]) dep)(hk:k<l.length)(h0:0≤dep.getD k (-1))(hd:dep.getD k (-1)≠d): safe l=false :=
 unsafe_of fun c hc=>by
  obtain⟨_,_,_,_,h1⟩:=h.snd c hc k d e (.inr (List.mem_append_right _ (List.mem_singleton.2 rfl)));obtain⟨e',hm⟩:=h.dm k h0;obtain⟨_,_,_,_,h2⟩:=h.snd c hc k _ e' (.inl hm);exact hd ((h2 hk).1.symm.trans (h1 hk).1)
theorem Gone.short(h:Gone l M (T++[((k:Int),d,e)]) dep){i:Ins}(hi:l[k]? = some i)(hd:d<takes i.1): safe l=false :=
 unsafe_of fun c hc=>by
  have:=snd_enough hc (h.snd c hc k d e (.inr (List.mem_append_right _ (List.mem_singleton.2 rfl)))) hi;omega
theorem mem_on{y:Plc}{T':List Plc}(h:y∈M∨y∈T++[x]): y∈x::M∨y∈T++T':=by
 rcases h with h|h
 ·exact .inl (List.mem_cons_of_mem _ h)
 ·rcases List.mem_append.1 h with h|h
  ·exact .inr (List.mem_append_left _ h)
  ·rw[List.mem_singleton] at h;exact .inl (h▸List.mem_cons_self ..)
theorem mem_off{y:Plc}(h:y∈x::M∨y∈T): y∈M∨y∈T++[x]:=by
 rcases h with h|h
 ·rcases List.mem_cons.1 h with h|h
  ·exact .inr (List.mem_append_right _ (List.mem_singleton.2 h))
  ·exact .inl h
 ·exact .inr (List.mem_append_left _ h)
theorem Gone.last(hn:l.length≤24)(h:Gone l M (T++[((k:Int),d,e)]) dep)(hnew:((k:Int),d,e)∉M)(h8:d≤8)(h4:e≤4)(hk:l.length≤k): Gone l (((k:Int),d,e)::M) T dep:=by
 obtain⟨a1,a2,a3,a4,a5⟩:=h.at;have hok:okP l.length ((k:Int),d,e):=⟨by simp,by simpa using a1,a2,h8,a4,h4⟩;have hnone:∀{i:Ins},l[k]? = some i→False:=fun hi=>by have:=(List.getElem?_eq_some_iff.1 hi).1;omega
 refine⟨h.len,fun y hy=>?_,fun y hy=>h.okT y (List.mem_append_left _ hy),?_,?_,?_,fun k' d' e' hm hk'=>?_,fun k' h0=>?_,fun k' d' e' i hm hi=>?_,fun k' d' e' i hm hi a ha=>?_,fun c hc k' d' e' hm=>h.snd c hc k' d' e' (mem_off hm)⟩
 ·rcases List.mem_cons.1 hy with e1|e1
  ·exact e1▸hok
  ·exact h.okM y e1
 ·have:=free_cons hn h.okM hok hnew;have:=h.fr;rw[List.length_cons];omega
 ·have:=h.tl;rw[List.length_append] at this;rw[List.length_cons];simp at this;omega
 ·simpa using mem_on (T':=[]) h.zero
 ·rcases List.mem_cons.1 hm with e1|e1
  ·simp only[Prod.mk.injEq] at e1;omega
  ·exact h.one k' d' e' e1 hk'
 ·obtain⟨e',hm⟩:=h.dm k' h0;exact⟨e',List.mem_cons_of_mem _ hm⟩
 ·rcases List.mem_cons.1 hm with e1|e1
  ·simp only[Prod.mk.injEq] at e1;obtain rfl:k'=k:=by omega
   exact absurd hi (fun x=>hnone x)
  ·exact h.enough k' d' e' i e1 hi
 ·rcases List.mem_cons.1 hm with e1|e1
  ·simp only[Prod.mk.injEq] at e1;obtain rfl:k'=k:=by omega
   exact absurd hi (fun x=>hnone x)
  ·simpa using mem_on (T':=[]) (h.next k' d' e' i e1 hi a ha)
theorem next_len2(l:List Ins)(k:Nat)(i:Ins): (Vm.next l k i).length≤2:=by
 unfold Vm.next
 repeat' split
 all_goals simp
theorem Gone.go(hn:l.length≤24)(h:Gone l M (T++[((k:Int),d,e)]) dep)(hnew:((k:Int),d,e)∉M)(h8:d≤8)(h4:e≤4){i:Ins}(hi:l[k]? = some i)(hdep:¬(0≤dep.getD k (-1)∧dep.getD k (-1)≠d))(ht:(takes i.1:Int)≤d):
  Gone l (((k:Int),d,e)::M) (T++(Vm.next l k i).map (lead k d e i)) (dep.set k d):=by
 obtain⟨a1,a2,a3,a4,a5⟩:=h.at;have hlt:k<l.length:=(List.getElem?_eq_some_iff.1 hi).1;have hok:okP l.length ((k:Int),d,e):=⟨by simp,by simpa using a1,a2,h8,a4,h4⟩
 have hlv : (leaves i.1 : Int) ≤ 2 := by unfold leaves;repeat' split
                                         all_goals decide
 have hp:(0:Int)≤(if i.1=14 then 1 else 0)∧(if i.1=14 then 1 else 0)≤(1:Int):=by split<;>decide
 refine⟨by rw[List.length_set];exact h.len,fun y hy=>?_,fun y hy=>?_,?_,?_,mem_on h.zero,fun k' d' e' hm hk'=>?_,fun k' h0=>?_,fun k' d' e' i' hm hi'=>?_,fun k' d' e' i' hm hi' a ha=>?_,fun c hc k' d' e' hm=>?_⟩
 ·rcases List.mem_cons.1 hy with e1|e1
  ·exact e1▸hok
  ·exact h.okM y e1
 ·rcases List.mem_append.1 hy with e1|e1
  ·exact h.okT y (List.mem_append_left _ e1)
  ·obtain⟨a,ha,rfl⟩:=List.mem_map.1 e1;have:=next_le' hlt a ha;unfold lead;simp only;omega
 ·have:=free_cons hn h.okM hok hnew;have:=h.fr;rw[List.length_cons];omega
 ·have:=h.tl;have:=next_len2 l k i;simp only[List.length_append,List.length_map,List.length_cons,List.length_nil] at *;omega
 ·rw[getD_set];rcases List.mem_cons.1 hm with e1|e1
  ·simp only[Prod.mk.injEq] at e1;obtain⟨e2,rfl,rfl⟩:=e1;rw[if_pos ⟨by omega,by rw[h.len];exact hlt⟩]
  ·have h1:=h.one k' d' e' e1 hk';split
   ·rename_i hq
    obtain⟨rfl,_⟩:=hq;have:=h.okM _ e1;unfold okP at this;simp only at this;have hne:¬dep.getD k' (-1)≠d:=fun q=>hdep ⟨by omega,q⟩
    rw[←h1];exact(Classical.not_not.1 hne).symm
   ·exact h1
 ·rw[getD_set] at h0 ⊢;by_cases hq:k'=k∧k<dep.length
  ·rw[if_pos hq];exact⟨e,by rw[hq.1];exact List.mem_cons_self ..⟩
  ·rw[if_neg hq] at h0 ⊢;obtain⟨e',hm⟩:=h.dm k' h0;exact⟨e',List.mem_cons_of_mem _ hm⟩
 ·rcases List.mem_cons.1 hm with e1|e1
  ·simp only[Prod.mk.injEq] at e1;obtain⟨e2,rfl,rfl⟩:=e1;obtain rfl:k'=k:=by omega
   rw[hi] at hi';cases hi';exact ht
  ·exact h.enough k' d' e' i' e1 hi'
 ·rcases List.mem_cons.1 hm with e1|e1
  ·simp only[Prod.mk.injEq] at e1;obtain⟨e2,rfl,rfl⟩:=e1;obtain rfl:k'=k:=by omega
   rw[hi] at hi';cases hi';exact .inr (List.mem_append_right _ (List.mem_map.2 ⟨a,ha,rfl⟩))
  ·exact mem_on (h.next k' d' e' i' e1 hi' a ha)
 ·rcases hm with hm|hm
  ·rcases List.mem_cons.1 hm with e1|e1
   ·exact h.snd c hc k' d' e' (.inr (List.mem_append_right _ (List.mem_singleton.2 e1)))
   ·exact h.snd c hc k' d' e' (.inl e1)
  ·rcases List.mem_append.1 hm with e1|e1
   ·exact h.snd c hc k' d' e' (.inr (List.mem_append_left _ e1))
   ·obtain⟨a,ha,e2⟩:=List.mem_map.1 e1;unfold lead at e2;simp only[Prod.mk.injEq] at e2;obtain⟨e3,rfl,rfl⟩:=e2;obtain rfl:a=k':=by omega
    exact snd_next hc (h.snd c hc k d e (.inr (List.mem_append_right _ (List.mem_singleton.2 rfl)))) hi a ha
theorem Gone.fin(hf:Co.fitsI l=true)(h:Gone l M [] dep): safe l=true:=by
 have hin:∀{y:Plc},y∈M∨y∈([]:List Plc)→y∈M:=fun hy=>hy.elim id fun q=>by cases q
 refine safe_of_closed hf (M:=fun k d e=>((k:Int),d,e)∈M) ⟨?_,fun k d e hm=>?_,fun k d e d' e' h1 h2 hk=>?_,fun k d e i hm hi=>h.enough k d e i hm hi,fun k d e i hm hi a ha=>hin (h.next k d e i hm hi a ha)⟩
 ·exact hin h.zero
 ·have:=h.okM _ hm;unfold okP at this;simp only at this;omega
 ·exact(h.one k d e h1 hk).symm.trans (h.one k d' e' h2 hk)
end
end Vm
namespace Vm
open Ga
def livesL:List Ins→List Int→List Bool
 | i::l,d::ds=>(decide (d ≠ -1)&&(decide (i.1≠16)||decide (0<((livesL l ds).take i.2.toNat).count true)))::livesL l ds
 | _,_=>[]
def trimOne(i:Ins)(n:Nat): Ins:=if i.1=15∧n=0 then (13,0) else if i.1=15∨i.1=16 then (i.1,(n:Int)) else i
def trimL:List Ins→List Bool→List Ins
 | i::l,b::st=>if b=true then trimOne i ((st.take i.2.toNat).count true)::trimL l st else trimL l st
 | _,_=>[]
def pos(st:List Bool)(k:Nat): Nat:=(st.take k).count true
theorem lives_len:∀(p:List Ins) (ds:List Int),ds.length=p.length→(livesL p ds).length=p.length
 | [],[],_=>rfl
 | [],d::ds,h=>by cases h
 | i::l,[],h=>by cases h
 |i::l,d::ds,h=>by
  rw[livesL,List.length_cons,lives_len l ds (by simpa using h),List.length_cons]
theorem pos_zero(st:List Bool): pos st 0=0:=rfl
theorem pos_cons(b:Bool)(st:List Bool)(k:Nat): pos (b::st) (k+1)=(if b=true then 1 else 0)+pos st k:=by
 unfold pos;rw[List.take_succ_cons,List.count_cons];cases b<;>simp
 omega
theorem pos_succ:∀(st:List Bool) (k:Nat),pos st (k+1)=pos st k+if st.getD k false=true then 1 else 0
 | [],k=>by simp[pos]
 | b::st,0=>by rw[pos_cons,pos_zero,pos_zero];cases b<;>rfl
 |b::st,k+1=>by
  rw[pos_cons,pos_cons,pos_succ st k,List.getD_cons_succ];omega
theorem pos_mono(st:List Bool)(k:Nat): ∀n,pos st k≤pos st (k+n)
 | 0=>Nat.le_refl _
 |n+1=>by
  have:=pos_succ st (k+n);have:=pos_mono st k n;have e:k+(n+1)=k+n+1:=rfl;rw[e];omega
theorem pos_all{st:List Bool}{k:Nat}(h:st.length≤k): pos st k=st.count true:=by
 unfold pos;rw[List.take_of_length_le h]
theorem over_eq(st:List Bool)(j n:Nat): ((st.drop j).take n).count true=pos st (j+n)-pos st j:=by
 unfold pos;rw[List.take_add,List.count_append];omega
theorem trim_len:∀(p:List Ins) (st:List Bool),st.length=p.length→(trimL p st).length=st.count true
 | [],[],_=>rfl
 | [],b::st,h=>by cases h
 | i::l,[],h=>by cases h
 |i::l,b::st,h=>by
  have:=trim_len l st (by simpa using h);rw[trimL];cases b<;>simp[this]
theorem lives_at:∀(p:List Ins) (ds:List Int) (k:Nat) (i:Ins),ds.length=p.length→p[k]? = some i→(livesL p ds).getD k false=(decide (ds.getD k (-1) ≠ -1)&&(decide (i.1≠16)||decide (0<((((livesL p ds).drop (k+1)).take i.2.toNat).count true))))
 | [],ds,k,i,_,h=>by simp at h
 | j::l,[],k,i,h,_=>by cases h
 |j::l,d::ds,0,i,h,hi=>by
  rw[List.getElem?_cons_zero] at hi;cases hi
  rw[livesL];rfl
 |j::l,d::ds,k+1,i,h,hi=>by
  rw[List.getElem?_cons_succ] at hi;rw[livesL,List.getD_cons_succ,List.getD_cons_succ,List.drop_succ_cons];exact lives_at l ds k i (by simpa using h) hi
theorem goC_len{p:List Ins}{c:Cst}: ∀(l:List Ins) (k:Nat) (s:Cst),goC p l k s=some c→c.depth.length=s.depth.length
 | [],k,s,h=>by cases h;rfl
 |i::l,k,s,h=>by
  rw[goC] at h;split at h
  ·split at h
   ·exact(goC_len l _ _ h).trans (stepC_len ..)
   ·cases h
  ·exact goC_len l _ _ h
theorem checkC_len{p:List Ins}{c:Cst}(h:checkC p=some c): c.depth.length=p.length:=by
 unfold checkC at h;split at h
 ·exact(goC_len p 0 _ h).trans (start_len _)
 ·cases h
section
variable {p:List Ins} {c:Cst}
theorem stay_known(hc:checkC p=some c){k:Nat}{i:Ins}(hi:p[k]? = some i)(hd:c.depth.getD k (-1) ≠ -1)(hs:(livesL p c.depth).getD k false≠true): i.1=16∧pos (livesL p c.depth) (k+1+i.2.toNat)=pos (livesL p c.depth) (k+1):=by
 have hl:c.depth.length=p.length:=checkC_len hc;have h:=lives_at p c.depth k i hl hi;rw[over_eq] at h;have hm:=pos_mono (livesL p c.depth) (k+1) i.2.toNat;rw[h] at hs;simp only[Bool.and_eq_true,Bool.or_eq_true,decide_eq_true_eq,ne_eq,not_and,not_or] at hs;have:=hs hd;omega
theorem stay_off{k:Nat}(hs:(livesL p c.depth).getD k false≠true): pos (livesL p c.depth) (k+1)=pos (livesL p c.depth) k:=by
 rw[pos_succ,if_neg hs];rfl
theorem resolve(hc:checkC p=some c): ∀(m k:Nat) (d e:Int),p.length-k≤m→Snd p c k d e→pos (livesL p c.depth) k<(trimL p (livesL p c.depth)).length→∃k2,(livesL p c.depth).getD k2 false=true∧pos (livesL p c.depth) k2=pos (livesL p c.depth) k∧Snd p c k2 d e
 |m,k,d,e,hm,hs,hp=>by
  have hl:c.depth.length=p.length:=checkC_len hc;have hlv:=lives_len p c.depth hl;rw[trim_len p _ hlv] at hp
  have hk:k<p.length:=by
   rcases Nat.lt_or_ge k p.length with x|x
   ·exact x
   ·rw[pos_all (by omega)] at hp;omega
  by_cases hst:(livesL p c.depth).getD k false=true
  ·exact⟨k,hst,rfl,hs⟩
  ·cases m with
   | zero=>omega
   |succ m =>
    obtain⟨h1,h2,h3⟩:=hs.2.2.2.2 hk;have hi:p[k]? = some p[k]:=List.getElem?_eq_getElem hk;obtain⟨h16,hj⟩:=stay_known hc hi (by omega) hst
    have hn:min (k+1+p[k].2.toNat) p.length∈next p k p[k]:=by
     unfold next
     rw[if_neg (by omega),if_pos h16];exact List.mem_singleton.2 rfl
    have hs2:=snd_next hc hs hi _ hn;have ht:takes p[k].1=0:=by rw[h16];rfl
    have hv:leaves p[k].1=0:=by rw[h16];rfl
    rw[ht,hv,if_neg (by omega)] at hs2;rw[show d-((0:Nat):Int)+((0:Nat):Int)=d by omega,Int.add_zero] at hs2
    have hpe:pos (livesL p c.depth) (min (k+1+p[k].2.toNat) p.length)=pos (livesL p c.depth) k:=by
     rcases Nat.le_total (k+1+p[k].2.toNat) p.length with x|x
     ·rw[Nat.min_eq_left x,hj,stay_off hst]
     ·rw[Nat.min_eq_right x,pos_all (by omega),←pos_all (k:=k+1+p[k].2.toNat) (by omega),hj,stay_off hst]
    obtain⟨k2,q1,q2,q3⟩:=resolve hc m _ d e (by omega) hs2 (by rw[trim_len p _ hlv,hpe];exact hp);exact⟨k2,q1,q2.trans hpe,q3⟩
theorem next_other(p:List Ins)(k:Nat)(i:Ins)(h0:i.1≠0)(h15:i.1≠15)(h16:i.1≠16): next p k i=[k+1]:=by
 unfold next;rw[if_neg h0,if_neg h16,if_neg h15]
theorem next_halt(p:List Ins)(k:Nat)(i:Ins)(h0:i.1=0): next p k i=[]:=by
 unfold next;rw[if_pos h0]
theorem next_jump(p:List Ins)(k:Nat)(i:Ins)(h:i.1=16): next p k i=[min (k+1+i.2.toNat) p.length]:=by
 unfold next;rw[if_neg (by omega),if_pos h]
theorem next_jz(p:List Ins)(k:Nat)(i:Ins)(h:i.1=15): next p k i=[k+1,min (k+1+i.2.toNat) p.length]:=by
 unfold next;rw[if_neg (by omega),if_neg (by omega),if_pos h]
end
end Vm
namespace Gr
open Oc (be bes)
open Ga Tab
structure RightM (fits:List Vm.Ins→Prop) (m:Mf):Prop where
 ep:0≤m.epoch∧m.epoch≤2147483647
 pl:0≤m.plans∧m.plans≤2147483647
 gr:RightR m.graph
 so:m.graph.Pairwise fun a b=>a.id<b.id
 of:∃n,m.graph.head? = some n∧(m.offs.length:Int)=n.par
 o4:∀x∈m.offs,0≤x∧x≤400
 en:∀x∈m.ents,(0≤x.node∧x.node<8)∧(0≤x.key∧x.key<64)∧rightV x.c0=true∧rightV x.c1=true∧nz x=true
 ei:m.ents.Pairwise fun a b=>num a<num b
 ek:∀x∈m.ents,∃n,nodeOf m.graph x.node=some n∧n.kind=1
 ol:m.out.length≤4000
 ou:∀x∈m.out,(0≤x.sink∧x.sink≤7)∧(0≤x.frm∧x.frm≤7)∧(0≤x.key∧x.key<64)∧rightV x.v=true
 pn:m.plan=[]∨OkPl fits m.plan∧∀x∈m.plan,cleanS x=x
theorem okV_of{v:Val}(h:rightV v=true): okV v:=by
 unfold rightV at h;simp only[Bool.and_eq_true,decide_eq_true_eq] at h;have h1:=into_range v.1;have h2:=into_range v.2;unfold okV;omega
theorem ents_len{l:List En}(h:∀x∈l,(0≤x.node∧x.node<8)∧(0≤x.key∧x.key<64))(hs:l.Pairwise fun a b=>num a<num b): l.length≤512:=by
 have hnd:(l.map fun x=>(num x).toNat).Nodup:=by
  rw[List.Nodup,List.pairwise_map];refine hs.imp_of_mem fun {a b} ha hb hlt=>?_
  have h1:=h a ha;have h2:=h b hb;unfold num at hlt ⊢;omega
 have:=hnd.length_le_of_subset (l₂:=List.range 512) (fun y hy=>by
  obtain⟨x,hx,rfl⟩:=List.mem_map.1 hy;have h1:=h x hx;rw[List.mem_range];unfold num
  omega)
 simpa using this
section
variable {gp:List UInt8→List Vm.Ins×Int×List UInt8} {pp:List Vm.Ins→List UInt8} {fits:List Vm.Ins→Prop}
theorem putNd_len(hl:∀l,fits l→(pp l).length≤200){lp:Int}{n:Nd}(h:OkB fits lp n): (putNd pp n).length≤260:=by
 unfold putNd;simp only[List.length_append,Oc.be_len,Oc.bes_len];have:=hl _ h.p;have:=h.m;have:=h.ol;omega
theorem flat_len{α:Type}{f:α→List UInt8}{k:Nat}: ∀(l:List α),(∀x∈l,(f x).length≤k)→(l.flatMap f).length≤l.length*k
 | [],_=>Nat.zero_le _
 |x::l,h=>by
  rw[List.flatMap_cons,List.length_append,List.length_cons,Nat.add_mul,Nat.one_mul];have h1:=h x (List.mem_cons_self ..);have h2:=flat_len l fun y hy=>h y (List.mem_cons_of_mem _ hy)
  omega
theorem putPl_len(hl:∀l,fits l→(pp l).length≤200){p:List Stp}(h:OkPl fits p): (putPl pp p).length≤8000:=by
 unfold putPl;rw[List.length_append,Oc.be_len]
 have h1:=flat_len (f:=putSt pp) (k:=268) p fun s hs=>by
  unfold putSt;simp only[List.length_append,Oc.be_len];have:=putNd_len hl (h.2.2 s hs).2;omega
 have:=h.2.1;have h2:p.length*268≤6*268:=Nat.mul_le_mul_right _ this;omega
theorem RightM.okM{m:Mf}(h:RightM fits m)(h0:fits [])(hs:∀p,Vm.safe p=true→fits p)(hr:∀n∈m.graph,n.route.length=8)(hl:∀l,fits l→(pp l).length≤200): okM pp fits m:=by
 refine⟨h.ep,h.pl,⟨?_,h.o4⟩,⟨by have:=h.gr.len;omega,h.gr.okB h0 hs hr⟩,⟨?_,fun x hx=>?_⟩,⟨by have:=h.ol;omega,fun x hx=>?_⟩,?_⟩
 ·obtain⟨n,hn,e⟩:=h.of;have hm:n∈m.graph:=List.mem_of_mem_head? hn;obtain⟨i,hk⟩:=h.gr.at hm;have:=hk.pr3;omega
 ·have:=ents_len (fun x hx=>⟨(h.en x hx).1,(h.en x hx).2.1⟩) h.ei;omega
 ·obtain⟨h1,h2,h3,h4,-⟩:=h.en x hx;exact⟨⟨⟨by omega,by omega⟩,okV_of h3⟩,okV_of h4⟩
 ·obtain⟨h1,h2,h3,h4⟩:=h.ou x hx;exact⟨⟨⟨h1,h2⟩,by omega⟩,okV_of h4⟩
 ·rcases h.pn with e|⟨h1,h2⟩
  ·exact .inl e
  ·exact .inr ⟨h1,h2,by have:=putPl_len hl h1;omega⟩
end
end Gr
namespace Gr
open Oc (be bes)
section
variable {gp:List UInt8→List Vm.Ins×Int×List UInt8} {pp:List Vm.Ins→List UInt8} {fits:List Vm.Ins→Prop}
end
end Gr
namespace Gr
open Oc (be bes)
open Ga Tab
structure RightPm (fits:List Vm.Ins→Prop) (m:Mf) (s:List En):Prop where
 ep:0≤m.epoch∧m.epoch≤2147483647
 pl:0≤m.plans∧m.plans≤2147483647
 gr:RightR m.graph
 so:sortedG m.graph
 ol:m.out.length≤4000
 pn:m.plan=[]∨OkPl fits m.plan∧m.plan.map cleanS=m.plan
 of:∃n,nodeOf m.graph 0=some n∧(m.offs.length:Int)=n.par
 o4:∀x∈m.offs,0≤x∧x≤400
 en:∀x∈m.ents,(0≤x.node∧x.node<8)∧(0≤x.key∧x.key<64)∧rightV x.c0=true∧rightV x.c1=true
 al:s=m.ents
 ft:∀x∈s,∃n,nodeOf m.graph x.node=some n∧n.kind=1
 ou:∀x∈m.out,(0≤x.sink∧x.sink≤7)∧(0≤x.frm∧x.frm≤7)∧(0≤x.key∧x.key<64)∧rightV x.v=true
theorem strict_of{l:List Nd}(hu:(ids l).Nodup)(hs:sortedG l): l.Pairwise fun a b=>a.id<b.id:=by
 have h1:l.Pairwise fun a b=>a.id≠b.id:=by
  unfold ids at hu;rw[List.Nodup,List.pairwise_map] at hu;exact hu
 exact(List.Pairwise.and hs h1).imp fun h=>by omega
theorem head_source{l:List Nd}(h:RightR l)(hs:l.Pairwise fun a b=>a.id<b.id): nodeOf l 0=l.head? :=by
 have hz:(0:Int)∈ids l:=((right_iff (List.Perm.refl l)).1 h).z
 cases l with
 | nil=>cases hz
 |cons x l =>
  obtain⟨n,hn,e⟩:=List.mem_map.1 hz;have hx:=h.r7 x (List.mem_cons_self ..)
  have hxn:n=x:=by
   rcases List.mem_cons.1 hn with h1|h1
   ·exact h1
   ·have:=(List.pairwise_cons.1 hs).1 n h1;omega
  subst hxn;have:=bind_find h.ids (List.mem_cons_self (a:=n) (l:=l));rw[e] at this;exact this
theorem map_clean_iff(p:List Stp): p.map cleanS=p↔∀x∈p,cleanS x=x:=by
 constructor
 ·intro h x hx;obtain⟨i,hi,rfl⟩:=List.mem_iff_getElem.1 hx;have h2:=congrArg (fun l=>l[i]?) h;simp only[List.getElem?_map,List.getElem?_eq_getElem hi,Option.map_some,Option.some.injEq] at h2;exact h2
 ·exact map_clean
theorem rightM_iff{fits:List Vm.Ins→Prop}{m:Mf}{s:List En}(hp:s.Perm (newT m.ents))(hs:s.Pairwise fun a b=>num a≤num b): RightPm fits m s↔RightM fits m:=by
 constructor
 ·intro h;have hst:=strict_of h.gr.ids h.so;obtain⟨e1,e2⟩:=(all_iff hp hs).1 h.al;refine⟨h.ep,h.pl,h.gr,hst,?_,h.o4,fun x hx=>?_,e1,fun x hx=>h.ft x (by rw[h.al];exact hx),h.ol,h.ou,h.pn.imp id fun q=>⟨q.1,(map_clean_iff _).1 q.2⟩⟩
  ·rw[←head_source h.gr hst];exact h.of
  ·obtain⟨a1,a2,a3,a4⟩:=h.en x hx;exact⟨a1,a2,a3,a4,e2 x hx⟩
 ·intro h;have hal:=(all_iff hp hs).2 ⟨h.ei,fun x hx=>(h.en x hx).2.2.2.2⟩;refine⟨h.ep,h.pl,h.gr,h.so.imp fun h=>by omega,h.ol,h.pn.imp id fun q=>⟨q.1,(map_clean_iff _).2 q.2⟩,?_,h.o4,fun x hx=>?_,hal,fun x hx=>h.ek x (by rw[←hal];exact hx),h.ou⟩
  ·rw[head_source h.gr h.so];exact h.of
  ·obtain⟨a1,a2,a3,a4,-⟩:=h.en x hx;exact⟨a1,a2,a3,a4⟩
end Gr
namespace Gr
open Tab Ga
def taskOf(n:Nd)(k:Int): Int:=n.route.getD (k%8).toNat 0
def partE(n:Nd)(t:Int)(l:List En): List En:=l.filter fun x=>x.node==n.id&&taskOf n x.key==t
def many(g:List Nd)(l:List En): Nat:=(g.map fun n=>((List.range n.par.toNat).map fun t=>(partE n (t:Nat) l).length).sum).sum
end Gr
namespace Gr
def updN(l:List Nd)(x:Int)(f:Nd→Nd): List Nd:=l.map fun m=>if m.id=x then f m else m
def remN(l:List Nd)(x:Int): List Nd:=l.filter fun m=>decide (m.id≠x)
def finE(chk:List Nd→Int)(l:List Nd): Int×List Nd:=if chk l≠0 then (chk l,[]) else (0,l)
def stepE(chk:List Nd→Int)(l:List Nd)(s:Stp): Int×List Nd :=
 if chk l≠0 then (10,[]) else if s.kind<1∨5<s.kind then (11,[]) else
 match nodeOf l s.nd.id with
 | none=>if s.kind=2 then (if s.nd.kind=0 then (11,[]) else finE chk (l++[s.nd])) else (12,[])
 |some n =>
  if s.kind=2 then (13,[])
  else if s.kind=1 then (if n.kind≠1 then (11,[]) else if Vm.safe s.nd.prog=true then finE chk (updN l s.nd.id fun m=>{ m with prog:=s.nd.prog }) else (9,[]))
  else if s.kind=3 then (if n.kind=0∨(l.any fun m=>decide (s.nd.id∈m.frm))=true then (11,[]) else finE chk (remN l s.nd.id))
  else if s.kind=4 then (if n.kind=0 then (11,[]) else finE chk (updN l s.nd.id fun m=>{ m with par:=s.nd.par,route:=s.nd.route }))
  else (if n.kind≠2 then (11,[]) else finE chk (updN l s.nd.id fun m=>{ m with frm:=s.nd.frm }))
def stepsE(chk:List Nd→Int): List Nd→List Stp→Nat→Int×Nat×List Nd
 | l,[],_=>(0,0,l)
 | l,s::p,i=>if (stepE chk l s).1≠0 then ((stepE chk l s).1,i+1,[]) else stepsE chk (stepE chk l s).2 p (i+1)
def applyE(chk:List Nd→Int)(l:List Nd)(p:List Stp): Int×Nat×List Nd :=
 if chk l≠0 then (10,0,[]) else if p.length<1∨6<p.length then (11,0,[]) else stepsE chk l p 0
end Gr
namespace Gr
def goes(chk:List Nd→Int)(g:List Nd)(p:List Stp): Bool:=decide ((applyE chk g p).1=0)
def nextG(chk:List Nd→Int)(g:List Nd)(p:List Stp): List Nd:=if goes chk g p=true then (applyE chk g p).2.2 else g
def aheadG(chk:List Nd→Int)(g:List Nd)(q:List (List Stp)): List Nd:=q.foldl (nextG chk) g
def keepQ(chk:List Nd→Int): List Nd→List (List Stp)→List (List Stp)
 | _,[]=>[]
 | g,p::q=>if goes chk g p=true then p::keepQ chk (nextG chk g p) q else keepQ chk g q
section
variable {chk:List Nd→Int}
theorem keepQ_append:∀(a b:List (List Stp)) (g:List Nd),keepQ chk g (a++b)=keepQ chk g a++keepQ chk (aheadG chk g a) b
 | [],b,g=>rfl
 |p::a,b,g=>by
  rw[List.cons_append,keepQ,keepQ,keepQ_append a b,keepQ_append a b];by_cases h:goes chk g p=true
  ·rw[if_pos h,if_pos h];rfl
  ·have e:nextG chk g p=g:=by unfold nextG;rw[if_neg h]
   rw[if_neg h,if_neg h];show _=_++keepQ chk (aheadG chk (nextG chk g p) a) b;rw[e]
def Waits(chk:List Nd→Int)(g:List Nd)(q:List (List Stp)): Prop:=keepQ chk g q=q
theorem Waits.nil(g:List Nd): Waits chk g []:=rfl
theorem Waits.snoc{g:List Nd}{q:List (List Stp)}{p:List Stp}(h:Waits chk g q)(hp:goes chk (aheadG chk g q) p=true): Waits chk g (q++[p]):=by
 unfold Waits;rw[keepQ_append,h,keepQ,if_pos hp];rfl
theorem keepQ_len:∀(q:List (List Stp)) (g:List Nd),(keepQ chk g q).length≤q.length
 | [],g=>Nat.le_refl _
 |p::q,g=>by
  unfold keepQ;have h1:=keepQ_len q (nextG chk g p);have h2:=keepQ_len q g;split
  ·rw[List.length_cons,List.length_cons];omega
  ·rw[List.length_cons];omega
theorem Waits.take{g:List Nd}{a b:List (List Stp)}(h:Waits chk g (a++b)): Waits chk g a:=by
 unfold Waits at h ⊢;rw[keepQ_append] at h;have h1:=keepQ_len (chk:=chk) a g;have h2:=keepQ_len (chk:=chk) b (aheadG chk g a);have h3:=congrArg List.length h;rw[List.length_append,List.length_append] at h3;exact(List.append_inj h (by omega)).1
theorem Waits.cut{g:List Nd}{q:List (List Stp)}(h:Waits chk g q)(i:Nat): Waits chk g (q.take i):=by
 have:Waits chk g (q.take i++q.drop i):=by rw[List.take_append_drop];exact h
 exact this.take
end
end Gr
