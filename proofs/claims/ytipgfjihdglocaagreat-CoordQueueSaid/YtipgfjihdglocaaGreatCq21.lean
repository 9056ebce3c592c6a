import Derived.Test.YtipgfjihdglocaaGreatCq11
import Derived.Test.YtipgfjihdglocaaGreatCq15
import Derived.Test.YtipgfjihdglocaaGreatCq16
import Derived.Test.YtipgfjihdglocaaGreatCq7
import Derived.Test.YtipgfjihdglocaaGreatCq9
import Derived.Deep.LoopGhost
import Derived.Maps.RangeWalk
import Derived.Test.YtipgfjihdglocaaGreatCq5
import Derived.Deep.QuietTactic
import Derived.BigQuiet
import Derived.Deep.RegionHeld3
import Derived.Test.YtipgfjihdglocaaGreatCq12
set_option linter.unusedSimpArgs false
set_option linter.unusedVariables false
set_option maxRecDepth 100000
set_option maxHeartbeats 64000000
namespace Go.Proofs.YtipgfjihdglocaaGreat
open Go.RowKit Ga
abbrev Who:=Int×Int
def whK(x:Who): Value:=.agg #[.int .i64 x.1,.int .i64 x.2]
theorem whK_inj(a b:Who)(h:whK a=whK b): a=b:=by
 obtain⟨a1,a2⟩:=a;obtain⟨b1,b2⟩:=b;unfold whK at h;simp at h;obtain⟨rfl,rfl⟩:=h;rfl
def okWho(x:Who): Prop:=(-9223372036854775808≤x.1∧x.1≤9223372036854775807)∧(-9223372036854775808≤x.2∧x.2≤9223372036854775807)
theorem keyTypeW:Tryz.prog.keyType 178=true:=by kernel_rfl
theorem cellsW:Tryz.prog.cellsOf 178=2:=by kernel_rfl
theorem who_law:Maps.Keyed Tryz.prog 178:=Maps.Keyed.of_law (deep_law_laid laidOutC (m:=3) (by decide) (of_decide_eq_true (by kernel_rfl)) (by kernel_rfl) (by kernel_rfl))
theorem keyW(x:Who)(h:okWho x): ∃kl,keyOf Tryz.prog 178 (whK x)=some kl:=by
 have w1:=WalkArith.wf_i64 h.1;have w2:=WalkArith.wf_i64 h.2;unfold whK keyOf;obtain⟨m,hm⟩:=Nat.exists_eq_succ_of_ne_zero sizeC;simp only[Tryz.underlying178,keyTypeW,hm];simp[Value.formed,Tryz.underlying178,cellsW,Program.keyLits,Value.cells,Tryz.underlying3,cellsCI,w1,w2]
structure AkC where
 node:Int
 ix:Int
 ep:Int
 ae:Option Addr
 ne:Nat
 ce:Nat
 ax:Option Addr
 nx:Nat
 cx:Nat
 off:Int
def AkC.zero:AkC:=⟨0,0,0,none,0,0,none,0,0,0⟩
def akv(c:AkC): Value:=.agg #[.int .i64 c.node,.int .i64 c.ix,.int .i64 c.ep,.slice c.ae c.ne c.ce,.slice c.ax c.nx c.cx,.int .i64 c.off]
def adD:Option Addr→DataW Unit
 | none=>.nil
 | some ⟨b,o,none⟩=>.agg [.lit (.int .i64 b),.lit (.int .i64 o)]
 | some ⟨b,o,some s⟩=>.agg [.lit (.int .i64 b),.lit (.int .i64 o),.lit (.int .i64 s)]
theorem adD_inj:∀a b,adD a=adD b→a=b
 | none,none,_=>rfl
 | none,some ⟨_,_,none⟩,h=>by cases h
 | none,some ⟨_,_,some _⟩,h=>by cases h
 | some ⟨_,_,none⟩,none,h=>by cases h
 | some ⟨_,_,some _⟩,none,h=>by cases h
 |some ⟨a,b,none⟩,some ⟨c,d,none⟩,h=>by
  unfold adD at h;simp at h;obtain⟨h1,h2⟩:=h;obtain rfl:a=c:=by omega
  obtain rfl:b=d:=by omega
  rfl
 | some ⟨_,_,none⟩,some ⟨_,_,some _⟩,h=>by simp[adD] at h
 | some ⟨_,_,some _⟩,some ⟨_,_,none⟩,h=>by simp[adD] at h
 |some ⟨a,b,some e⟩,some ⟨c,d,some f⟩,h=>by
  unfold adD at h;simp at h;obtain⟨h1,h2,h3⟩:=h;obtain rfl:a=c:=by omega
  obtain rfl:b=d:=by omega
  obtain rfl:e=f:=by omega
  rfl
def akDat(c:AkC): DataW Unit:=.agg [.lit (.int .i64 c.node),.lit (.int .i64 c.ix),.lit (.int .i64 c.ep),adD c.ae,.lit (.int .i64 c.ne),.lit (.int .i64 c.ce),adD c.ax,.lit (.int .i64 c.nx),.lit (.int .i64 c.cx),.lit (.int .i64 c.off)]
def akL:List Value→Option (DataW Unit×List MemPlace)
 | [.int .i64 a,.int .i64 b,.int .i64 c,.slice s n k,.slice s2 n2 k2,.int .i64 o]=>some (akDat ⟨a,b,c,s,n,k,s2,n2,k2,o⟩,[])
 | _=>none
def akR:Value→Option (DataW Unit×List MemPlace)
 | .agg c=>akL c.toList
 | _=>none
theorem akDat_inj{a b:AkC}(h:akDat a=akDat b): a=b:=by
 obtain⟨a1,a2,a3,a4,a5,a6,a7,a8,a9,a10⟩:=a;obtain⟨b1,b2,b3,b4,b5,b6,b7,b8,b9,b10⟩:=b;unfold akDat at h;simp at h;obtain⟨rfl,rfl,rfl,h4,h5,h6,h7,h8,h9,rfl⟩:=h;rw[adD_inj _ _ h4,adD_inj _ _ h7,show a5=b5 by omega,show a6=b6 by omega,show a8=b8 by omega,show a9=b9 by omega]
theorem akR_inv(u:Value)(ps:List MemPlace)(v:AkC)(h:akR u=some (akDat v,ps)): u=akv v:=by
 cases u with
 |agg c =>
  obtain⟨c⟩:=c;have h2:akL c=some (akDat v,ps):=h;unfold akL at h2;split at h2
  ·injection h2 with h3
   injection h3 with h4 _
   have:=akDat_inj h4;rw[←this];rfl
  ·cases h2
 | _=>cases h
def ackS:MSpec Who AkC where
 kt:=178
 law:=who_law
 kenc:=whK
 kinj:=whK_inj
 ok:=okWho
 key:=keyW
 venc:=akv
 dat:=akDat
 R:=akR
 rmk:=fun v=>rfl
 rinv:=akR_inv
theorem zeroAck(w:World): (zeroValue 55).run Tryz.prog w = .ok (akv AkC.zero) w:=by kernel_rfl
theorem rows_keep{α:Type}{k:Nat}{enc:α→List Value}{w w':World}{v:Value}{l:List α}{b:Nat}(h:RowsAt k enc w v l)(hk:Keep b w w')(hb:∀c t f,w.heap[b]? ≠ some (.cells c t f)): RowsAt k enc w' v l:=by
 obtain⟨a,cap,rfl,hm,hx⟩:=h;refine⟨a,cap,rfl,hm,fun hne=>?_⟩;obtain⟨q,off,rfl,hc⟩:=hx hne;refine⟨q,off,rfl,fun i x hi j u hu=>?_⟩;have h1:=hc i x hi j u hu;have h2:=World.block_lt_of_cell? w _ h1
 have hq:q≠b:=by
  rintro rfl;unfold World.cell? at h1;split at h1
  ·rename_i e
   exact hb _ _ _ e
  ·cases h1
 unfold World.cell? at h1 ⊢;simp only at h1 h2 ⊢;rw[hk.2 q h2 hq];exact h1
theorem nodes_keep{w w':World}{v:Value}{l:List Gr.Nd}{b:Nat}(h:NodesAt w v l)(hk:Keep b w w')(hb:∀c t f,w.heap[b]? ≠ some (.cells c t f)): NodesAt w' v l:=by
 obtain⟨lc,h1,h2,h3⟩:=h;exact⟨lc,rows_keep h1 hk hb,h2,fun i c n hc hn=>let q:=h3 i c n hc hn;{ q with f:=rows_keep q.f hk hb,p:=rows_keep q.p hk hb }⟩
theorem map_nocells{κ ν:Type}{S:MSpec κ ν}{W:World}{b n:Nat}{m:List (κ×ν)}(h:MapAt S W b n m): ∀c t f,W.heap[b]? ≠ some (.cells c t f):=by
 obtain⟨D,⟨es,c,h1,-⟩,-⟩:=h;intro c t f e;rw[h1] at e;cases e
structure GatherAt (W:World) (x b n:Nat) (g:List Gr.Nd) (ep:Int) (m:List (Who×AkC)):Prop where
 cells:∃v,W.heap[x]? = some (.cells #[v,.int .i64 ep,.map (some b)] 176)∧NodesAt W v g
 map:MapAt ackS W b n m
 small:Small g
 len:g.length≤8
 so:g.Pairwise fun a b=>a.id<b.id
 right:Gr.RightR g
theorem GatherAt.grew{W W':World}{x b n:Nat}{g:List Gr.Nd}{ep:Int}{m:List (Who×AkC)}(h:GatherAt W x b n g ep m)(q:Grew W W'): GatherAt W' x b n g ep m:=by
 obtain⟨v,h1,h2⟩:=h.cells;exact⟨⟨v,grew_heap q h1,h2.grew q⟩,h.map.grew q,h.small,h.len,h.so,h.right⟩
theorem GatherAt.ne{W:World}{x b n:Nat}{g:List Gr.Nd}{ep:Int}{m:List (Who×AkC)}(h:GatherAt W x b n g ep m): x≠b:=fun e=>by
 obtain⟨v,h1,-⟩:=h.cells;exact map_nocells h.map _ _ _ (e▸h1)
theorem GatherAt.put{W W':World}{x b n n':Nat}{g:List Gr.Nd}{ep:Int}{m m':List (Who×AkC)}(h:GatherAt W x b n g ep m)(hk:Keep b W W')(hm:MapAt ackS W' b n' m'): GatherAt W' x b n' g ep m':=by
 obtain⟨v,h1,h2⟩:=h.cells;exact⟨⟨v,by rw[hk.2 x (heap_lt h1) h.ne];exact h1,nodes_keep h2 hk (map_nocells h.map)⟩,hm,h.small,h.len,h.so,h.right⟩
section
variable {α:Type} [Inhabited α] {enc:α→List Value} {k:Nat} {e:TypeId}
theorem flat_flatKG(henc:∀x,(enc x).length=k)(hk:0<k)(lc:List α)(j:Nat)(hj:j<lc.length*k): (lc.flatMap enc)[j]? = some ((Sort.flatK enc k lc.toArray)[j]!):=by
 have hi:j / k<lc.length:=Nat.div_lt_of_lt_mul (by rw[Nat.mul_comm];exact hj);rw[Sort.get_flatK enc k lc.toArray j (by simpa using hj)];have e1:lc.toArray[j / k]! = lc[j / k]:=by rw[getElem!_pos lc.toArray (j / k) (by simpa using hi)];simp
 rw[e1];have hm:j%k<(enc lc[j / k]).length:=by rw[henc];exact Nat.mod_lt _ hk
 have h2:(enc lc[j / k])[j%k]? = some ((enc lc[j / k])[j%k]!):=by rw[List.getElem?_eq_getElem hm,getElem!_pos (enc lc[j / k]) (j%k) hm]
 have h3:=flat_get henc lc (j / k) lc[j / k] (List.getElem?_eq_getElem hi) (j%k) _ h2;rw[show j / k*k+j%k=j from by rw[Nat.mul_comm];exact Nat.div_add_mod j k] at h3;exact h3
theorem own_holdsKG(henc:∀x,(enc x).length=k)(hk:0<k){base:Nat}{W:World}{b cap n:Nat}{lc:List α}(h:OwnAt base e k enc W (.slice (some ⟨b,0,none⟩) n cap) lc): Sort.HoldsK enc k W b 0 lc.toArray∧base≤b∧b<W.heap.size:=by
 obtain⟨h1,h2⟩:=h;rcases h2 with ⟨h,_⟩|⟨g,cap',cur,hv,hb,hh,hc,hm,hs,ht⟩
 ·cases h
 ·cases hv;refine⟨fun j hj=>?_,hb,(Array.getElem?_eq_some_iff.1 hh).1⟩;rw[Sort.size_flatK] at hj;have hj':j<lc.length*k:=by simpa using hj
  rw[Nat.zero_add,cell_of_heap hh,frozen_of_heap hh];refine⟨?_,rfl⟩;have h3:=flat_flatKG henc hk lc j hj';rw[←ht,List.getElem?_take,if_pos hj'] at h3;simpa using h3
theorem own_ofSortG(henc:∀x,(enc x).length=k)(hk:0<k){base:Nat}{W:World}{b cap n m:Nat}{lc lc':List α}{os:Array Obj}(h:OwnAt base e k enc W (.slice (some ⟨b,0,none⟩) n cap) lc)(hl:lc'.length=lc.length):
  OwnAt base e k enc (Go.Proofs.sortWorldK enc k W b 0 m lc'.toArray os) (.slice (some ⟨b,0,none⟩) n cap) lc'∧(∀q,q<W.heap.size→q≠b→(Go.Proofs.sortWorldK enc k W b 0 m lc'.toArray os).heap[q]? = W.heap[q]?)∧W.heap.size≤(Go.Proofs.sortWorldK enc k W b 0 m lc'.toArray os).heap.size:=by
 obtain⟨h1,h2⟩:=h;rcases h2 with ⟨h,_⟩|⟨g,cap',cur,hv,hb,hh,hc,hm,hs,ht⟩
 ·cases h
 ·cases hv;have hblk:b<W.heap.size:=(Array.getElem?_eq_some_iff.1 hh).1
  have hat:∀q,q<W.heap.size→(Go.Proofs.sortWorldK enc k W b 0 m lc'.toArray os).heap[q]? = (Sort.putRowK enc k (Sort.ahead W m) b 0 lc'.toArray).heap[q]? :=by
   intro q hq;unfold sortWorldK Sort.grow;simp only;rw[Array.getElem?_append_left];show q<(Sort.putRow id _ _ _ _).heap.size;rw[Sort.size_putRow];exact hq
  have hself:(Go.Proofs.sortWorldK enc k W b 0 m lc'.toArray os).heap[b]? = some (.cells (Sort.putCells id 0 (Sort.flatK enc k lc'.toArray) cur) e):=by
   rw[hat b hblk];unfold Sort.putRowK Sort.putRow Sort.mapBlock;simp only[Array.getElem?_modify,if_true];rw[show(Sort.ahead W m).heap=W.heap from rfl];have hh':W.heap[b]? = some (.cells cur e):=hh;rw[hh'];rfl
  have hps:(Sort.putCells id 0 (Sort.flatK enc k lc'.toArray) cur).size=cur.size:=by unfold Sort.putCells;rw[Array.size_mapIdx]
  refine⟨⟨by rw[flat_length henc],.inr ⟨b,cap,_,by rw[hl],hb,hself,by rw[hl];exact hc,hm,by rw[hps];exact hs,?_⟩⟩,fun q hq hne=>?_,?_⟩
  ·refine List.ext_getElem? fun j=>?_
   by_cases hj:j<lc'.length*k
   ·rw[List.getElem?_take,if_pos hj,flat_flatKG henc hk lc' j hj]
    have hjc:j<cur.size:=by
     rw[hs];exact Nat.lt_of_lt_of_le hj (Nat.mul_le_mul_right k (by rw[hl];exact hc))
    unfold Sort.putCells;rw[Array.getElem?_toList,Array.getElem?_mapIdx,Array.getElem?_eq_getElem hjc];simp only[Option.map_some,Nat.zero_le,true_and,Nat.zero_add,Sort.size_flatK,Nat.sub_zero,id];rw[if_pos (by simpa using hj)]
   ·rw[List.getElem?_take,if_neg hj,List.getElem?_eq_none (by rw[flat_length henc];omega)]
  ·rw[hat q hq];unfold Sort.putRowK Sort.putRow Sort.mapBlock;simp only[Array.getElem?_modify];rw[if_neg (fun e=>hne e.symm)];rfl
  ·unfold sortWorldK Sort.grow Sort.putRowK;simp only[Array.size_append,Sort.size_putRow];exact Nat.le_add_right _ _
end
abbrev Sm:={ x:Tab.En // There x }
instance:Inhabited Sm:=⟨⟨⟨0,0,(0,0),(0,0)⟩,⟨by decide,by decide⟩,⟨by decide,by decide⟩⟩⟩
def encSm(x:Sm): List Value:=encEn x.1
theorem encSm_len(x:Sm): (encSm x).length=6:=rfl
def cmpSm(x y:Sm): Int:=(x.1.node-y.1.node)*64+x.1.key-y.1.key
theorem cmpSm_num(x y:Sm): cmpSm x y=Tab.num x.1-Tab.num y.1:=by unfold cmpSm Tab.num;omega
theorem ltSm(x y:Sm): ltOf cmpSm x y=decide (Tab.num x.1<Tab.num y.1):=by
 unfold ltOf;rw[cmpSm_num];exact decide_eq_decide.2 (by omega)
theorem swoSm:Sort.SWO (ltOf cmpSm):=by
 refine⟨fun x=>?_,fun x y z h1 h2=>?_,fun x y z h1 h2=>?_⟩
 ·rw[ltSm];simp
 ·rw[ltSm] at *;simp only[decide_eq_true_eq] at *;omega
 ·rw[ltSm] at *;simp only[decide_eq_false_iff_not] at *;omega
theorem cmpEn_any(x y:Sm)(W:World): Calls Tryz.prog 223 #[.agg (encSm x).toArray,.agg (encSm y).toArray] W fun e w'=>e = .returned (.int .i64 (cmpSm x y))∧∃q os',w'=Sort.grow (W.drewN q) os':=by
 obtain⟨⟨n1,k1,⟨a1,b1⟩,⟨c1,d1⟩⟩,⟨h1,h2⟩,h3,h4⟩:=x;obtain⟨⟨n2,k2,⟨a2,b2⟩,⟨c2,d2⟩⟩,⟨g1,g2⟩,g3,g4⟩:=y;simp only at h1 h2 h3 h4 g1 g2 g3 g4;unfold cmpSm;simp only;show Calls Tryz.prog _ #[.agg #[.int .i64 n1,.int .i64 k1,.int .i64 a1,.int .i64 b1,.int .i64 c1,.int .i64 d1],.agg #[.int .i64 n2,.int .i64 k2,.int .i64 a2,.int .i64 b2,.int .i64 c2,.int .i64 d2]] W _;go_enter Tryz.func223,Tryz.ntmps223;go_wp2;go_ret;exact⟨rfl,0,_,by rw[Sort.alloc_eq_grow,Sort.alloc_eq_grow,Sort.grow_grow];rfl⟩
theorem enters223:∀args w,(callFunc 223 args).run Tryz.prog w = .ok (.enter 223 args) w:=enters_of Tryz.func223 (by kernel_rfl) rfl
def SortPostE(base:Nat)(W:World)(v:Value)(l:List Tab.En)(e:Ending)(w':World): Prop :=
 e = .returned (.tuple #[])∧∃l',OwnAt base 115 6 encEn w' v l'∧l'.Perm l∧(l'.Pairwise fun a b=>Tab.num a≤Tab.num b)∧(∀q,q<W.heap.size→v.ownBlock≠some q→w'.heap[q]? = W.heap[q]?)∧W.heap.size≤w'.heap.size∧(∀w0,Grew w0 W→w0.heap.size≤base→Grew w0 w')
theorem ownSm{base:Nat}{W:World}{v:Value}{ls:List Sm}: OwnAt base 115 6 encSm W v ls↔OwnAt base 115 6 encEn W v (ls.map (·.1)):=by
 unfold OwnAt;rw[List.length_map,List.flatMap_map];exact Iff.rfl
theorem sm_list:∀(l:List Tab.En),(∀x∈l,There x)→∃ls:List Sm,l=ls.map (·.1)
 | [],_=>⟨[],rfl⟩
 |x::l,h=>by
  obtain⟨ls,e⟩:=sm_list l fun y hy=>h y (List.mem_cons_of_mem _ hy)
  exact⟨⟨x,h x (List.mem_cons_self ..)⟩::ls,by rw[List.map_cons,←e]⟩
theorem sortEnts_any(base:Nat)(W:World)(v:Value)(l:List Tab.En)(h:OwnAt base 115 6 encEn W v l)(hth:∀x∈l,There x)(hl:l.length≤1000000):
  Calls Tryz.prog 222 #[v,.func (.func 223) #[] #[]] W (SortPostE base W v l):=by
 rcases OwnAt.form h with ⟨rfl,hn⟩|⟨b,cap,rfl,hb,hc,hm⟩
 ·subst hn;have h1:Calls Tryz.prog 222 #[.slice none 0 0,.func (.func 223) #[] #[]] W _:=sortNone_any (.func (.func 223) #[] #[]) W;refine h1.mono fun e w' ⟨he,hw⟩=>?_
  subst hw;exact⟨he,[],h,List.Perm.refl _,List.Pairwise.nil,fun _ _ _=>rfl,Nat.le_refl _,fun _ g _=>g⟩
 ·obtain⟨ls,rfl⟩:=sm_list l hth;rw[List.length_map] at hl hc ⊢;have ho:=ownSm.2 h;rw[List.length_map] at ho;obtain⟨hh,hb1,hb2⟩:=own_holdsKG encSm_len (by decide) ho;have hcon:=AnyQ.slices_SortFunc Tryz.sortEnt 6 Tryz.isAgg115 Tryz.sizeOf115 encSm encSm_len (fun x=>encEn_one x.1) cmpSm swoSm 223 #[] b 0 cap ls.toArray W enters223 (fun m os dk _ x y=>cmpEn_any x y _) hh hb2 (by simp;omega);have hcon2:Calls Tryz.prog 222 #[.slice (some ⟨b,0,none⟩) ls.length cap,.func (.func 223) #[] #[]] W _:=hcon;refine hcon2.mono fun e w' ⟨he,d',n,os,hp,hs,hw⟩=>?_
  obtain⟨p1,p2,p3⟩:=hp;have hsz:d'.size=ls.length:=by rw[p1];simp
  have hperm:d'.toList.Perm ls:=by
   have e1:d'.extract 0 ls.toArray.size=d':=by rw[show ls.toArray.size=d'.size from by rw[p1]];simp
   have e2:ls.toArray.extract 0 ls.toArray.size=ls.toArray:=by simp
   rw[e1,e2] at p3;exact p3
  obtain⟨q1,q2,q3⟩:=own_ofSortG (m:=n) (os:=os) (lc':=d'.toList) encSm_len (by decide) ho (by simpa using hsz);have hw2:w'=sortWorldK encSm 6 W b 0 n d'.toList.toArray os:=by rw[hw]
  rw[←hw2] at q1 q2 q3;refine⟨he,d'.toList.map (·.1),ownSm.1 q1,hperm.map _,?_,fun q hq hne=>q2 q hq fun e=>hne (by rw[e];rfl),q3,fun w0 g hb0=>?_⟩
  ·rw[List.pairwise_map,List.pairwise_iff_getElem];intro i j hi hj hij;have hi':i<d'.size:=by simpa using hi
   have hj':j<d'.size:=by simpa using hj
   have h5:=hs i j (Nat.zero_le _) hij (by rw[←p1];exact hj');rw[getElem!_pos d' i hi',getElem!_pos d' j hj',ltSm] at h5;simp only[decide_eq_false_iff_not,Array.getElem_toList] at h5 ⊢;omega
  ·rw[hw2];unfold sortWorldK Sort.putRowK;exact grewOs (grewRow (grewAhead g _) (by omega)) _
theorem len512{l:List Tab.En}(h:∀x∈l,There x)(hu:l.Pairwise fun a b=>Tab.num a≠Tab.num b): l.length≤512:=by
 have hn:(l.map fun x=>(Tab.num x).toNat).Nodup:=by
  rw[List.nodup_iff_pairwise_ne,List.pairwise_map];refine(List.pairwise_iff_forall_sublist.2 fun {a b} hs=>?_);have hab:=(List.pairwise_iff_forall_sublist.1 hu) hs;have ha:=h a (hs.subset (List.mem_cons_self ..));have hb:=h b (hs.subset (List.mem_cons_of_mem _ (List.mem_cons_self ..)));unfold There at ha hb;unfold Tab.num at *;omega
 have h2:=List.Nodup.length_le_of_subset (l₂:=List.range 512) hn fun y hy=>by
  obtain⟨x,hx,rfl⟩:=List.mem_map.1 hy;have hx':=h x hx;unfold There at hx';unfold Tab.num;rw[List.mem_range];omega
 simpa using h2
theorem un_eq{m:List Tab.En}(hu:m.Pairwise fun a b=>Tab.num a≠Tab.num b){x y:Tab.En}(hx:x∈m)(hy:y∈m)(h:Tab.num x=Tab.num y): x=y:=by
 obtain⟨i,hi,rfl⟩:=List.mem_iff_getElem.1 hx;obtain⟨j,hj,rfl⟩:=List.mem_iff_getElem.1 hy;have hp:=List.pairwise_iff_getElem.1 hu;rcases Nat.lt_trichotomy i j with h3|h3|h3
 ·exact absurd h (hp i j hi hj h3)
 ·subst h3;rfl
 ·exact absurd h.symm (hp j i hj hi h3)
structure Seen (D:DataW Unit) (m lo:List Tab.En) (left:Lit→Bool):Prop where
 un:lo.Pairwise fun a b=>Tab.num a≠Tab.num b
 sub:∀x∈lo,x∈m
 all:∀x∈m,∀kl,keyOf Tryz.prog 268 (ceK x.node x.key)=some kl→left kl=false→x∈lo
 out:∀x∈lo,∀kl,keyOf Tryz.prog 268 (ceK x.node x.key)=some kl→left kl=false
 has:∀kl,left kl=true→Maps.has D kl=true
theorem Seen.start{D:DataW Unit}{m:List Tab.En}(h:TabD D m): Seen D m [] (Maps.has D) :=
 ⟨List.Pairwise.nil,fun x hx=>(by cases hx),fun x hx kl hk hl=>(by rw[(h.at' x hx kl hk).1] at hl;cases hl),fun x hx=>(by cases hx),fun kl h=>h⟩
theorem Seen.next{D:DataW Unit}{m lo:List Tab.En}{left:Lit→Bool}(h:Seen D m lo left)(hD:TabD D m){n k:Int}{c0 c1:Val}{kl:Lit}{y:DataW Unit×List MemPlace}(hk:keyOf Tryz.prog 268 (ceK n k)=some kl)(hl:left kl=true)(hR:ceR (cev c0 c1)=some y)(hat:∀zd,D.atKey kl zd=y.1):
  Seen D m (lo++[⟨n,k,c0,c1⟩]) (fun z=>left z && !z.sameKey kl):=by
 obtain⟨p,hp,hpk⟩:=hD.has kl (h.has kl hl);obtain⟨e1,e2⟩:=ceK_inj (cell_law.inj hpk hk);have h3:=(hD.at' p hp kl hpk).2 (.agg []);rw[hat,←Option.some.inj hR] at h3;obtain⟨e3,e4⟩:=ceDat_inj h3;obtain⟨pn,pk,p0,p1⟩:=p;simp only at e1 e2 e3 e4;subst e1 e2 e3 e4;have hself:kl.sameKey kl=true:=WideAt.sameKey_self (cell_law.key hk);refine⟨?_,fun x hx=>?_,fun x hx k2 hk2 hl2=>?_,fun x hx k2 hk2=>?_,fun k2 hk2=>?_⟩
 ·rw[List.pairwise_append];refine⟨h.un,List.pairwise_singleton _ _,fun a ha b hb e=>?_⟩;rw[List.mem_singleton] at hb;subst hb;obtain⟨ka,hka⟩:=(hD.there a (h.sub a ha)).kl;have h5:=h.out a ha ka hka;rw[(key_other (hD.there a (h.sub a ha)) (hD.there _ hp) hka hk).2 e,hl] at h5;cases h5
 ·rcases List.mem_append.1 hx with h1|h1
  ·exact h.sub x h1
  ·rw[List.mem_singleton] at h1;subst h1;exact hp
 ·cases hq:left k2
  ·exact List.mem_append_left _ (h.all x hx k2 hk2 hq)
  ·rw[hq] at hl2;have h6:k2.sameKey kl=true:=by simpa using hl2
   have h7:k2=kl:=WideAt.sameKey_eq h6;subst h7;have h8:=un_eq hD.un hx hp ((key_other (hD.there x hx) (hD.there _ hp) hk2 hk).1 rfl);rw[h8];exact List.mem_append_right _ (List.mem_singleton.2 rfl)
 ·rcases List.mem_append.1 hx with h1|h1
  ·rw[h.out x h1 k2 hk2];rfl
  ·rw[List.mem_singleton] at h1;subst h1;have h9:k2=kl:=Option.some.inj (hk2.symm.trans hk);subst h9;rw[hself];simp
 ·simp only[Bool.and_eq_true] at hk2;exact h.has k2 hk2.1
theorem Seen.done{D:DataW Unit}{m lo:List Tab.En}{left:Lit→Bool}(h:Seen D m lo left)(hD:TabD D m)(h0:∀kl,left kl=false): lo.Perm m:=by
 have hn:∀{l:List Tab.En},(l.Pairwise fun a b=>Tab.num a≠Tab.num b)→l.Nodup:=fun hp=>by
  rw[List.nodup_iff_pairwise_ne];exact hp.imp fun h e=>h (by rw[e])
 rw[List.perm_ext_iff_of_nodup (hn h.un) (hn hD.un)];intro x;refine⟨h.sub x,fun hx=>?_⟩;obtain⟨kl,hk⟩:=(hD.there x hx).kl;exact h.all x hx kl hk (h0 kl)
abbrev RangesC(W:World)(b r n:Nat)(D:DataW Unit)(left:Lit→Bool)(cnt:Nat): Prop:=W.ranges Tryz.prog 268 ceR b r n D left cnt
theorem rangesC_same{W W':World}{b r n:Nat}{D:DataW Unit}{left:Lit→Bool}{cnt:Nat}(h:RangesC W b r n D left cnt)(hb:W'.heap[b]? = W.heap[b]?)(hr:W'.heap[r]? = W.heap[r]?): RangesC W' b r n D left cnt:=by
 obtain⟨es,clock,since,seen,c0,h1,h2,h3,h4,h5,h6⟩:=h;exact⟨es,clock,since,seen,c0,hb.trans h1,h2,h3,h4,hr.trans h5,h6⟩
theorem rangesC_lt{W:World}{b r n:Nat}{D:DataW Unit}{left:Lit→Bool}{cnt:Nat}(h:RangesC W b r n D left cnt): b<W.heap.size∧r<W.heap.size:=by
 obtain⟨es,clock,since,seen,c0,h1,h2,h3,h4,h5,h6⟩:=h;exact⟨heap_lt h1,heap_lt h5⟩
theorem rangesC_grew{W W':World}{b r n:Nat}{D:DataW Unit}{left:Lit→Bool}{cnt:Nat}(h:RangesC W b r n D left cnt)(g:Grew W W'): RangesC W' b r n D left cnt :=
 rangesC_same h (g.below.block b (rangesC_lt h).1) (g.below.block r (rangesC_lt h).2)
theorem rangesC_own{W:World}{b r n:Nat}{D:DataW Unit}{left:Lit→Bool}{cnt:Nat}(h:RangesC W b r n D left cnt){α:Type}{base:Nat}{e:TypeId}{k:Nat}{enc:α→List Value}{v:Value}{l:List α}(ho:OwnAt base e k enc W v l): v.ownBlock≠some b∧v.ownBlock≠some r:=by
 obtain⟨es,clock,since,seen,c0,h1,h2,h3,h4,h5,h6⟩:=h;constructor
 ·intro hv;obtain⟨_,cs,hc⟩:=OwnAt.block ho hv;rw[h1] at hc;cases hc
 ·intro hv;obtain⟨_,cs,hc⟩:=OwnAt.block ho hv;rw[h5] at hc;cases hc
theorem rangesC_app{W W' w0:World}{b r n:Nat}{D:DataW Unit}{left:Lit→Bool}{cnt:Nat}(h:RangesC W b r n D left cnt){α:Type}{base:Nat}{e:TypeId}{k:Nat}{enc:α→List Value}{v v':Value}{l l2:List α}(ho:OwnAt base e k enc W v l)(hA:Appended w0 e k enc W v l2 v' W'): RangesC W' b r n D left cnt :=
 rangesC_same h (hA.2.2.2.1 b (rangesC_lt h).1 (rangesC_own h ho).1) (hA.2.2.2.1 r (rangesC_lt h).2 (rangesC_own h ho).2)
theorem place_inv(key:Value)(kl:Lit)(h:keyOf Tryz.prog 268 key=some kl): ∃x:Int×Int,key=ceK x.1 x.2:=by
 have h2:key.formed Tryz.prog 268=true∧∃ls,Tryz.prog.keyLits (Tryz.prog.types.size+1) 268 key.cells.toList=some ls:=by
  unfold keyOf at h;simp only[Tryz.underlying268] at h;split at h
  ·rename_i hc
   simp only[Bool.and_eq_true] at hc;obtain⟨ls,hls,_⟩:=Option.map_eq_some_iff.1 h;exact⟨hc.2,ls,hls⟩
  ·cases h
 obtain⟨hf,ls,hls⟩:=h2;obtain⟨m,hm⟩:=Nat.exists_eq_succ_of_ne_zero sizeC
 have hint:∀(c:Value) (l:List Lit),Tryz.prog.keyLits (m+1) 3 [c]=some l→∃n:Int,c = .int .i64 n:=by
  intro c l hc;unfold Program.keyLits at hc;simp only[Tryz.underlying3] at hc;cases c<;>simp at hc
  rename_i k n
  obtain⟨⟨rfl,_⟩,_⟩:=hc;exact⟨n,rfl⟩
 cases key with
 |agg cs =>
  obtain⟨cs⟩:=cs
  have hsz:cs.length=2:=by
   simp[Value.formed,Tryz.underlying268,cellsC] at hf;exact hf
  match cs,hsz with
  |[c0,c1],_ =>
   rw[hm] at hls;unfold Program.keyLits at hls;simp[Tryz.underlying268,cellsC,cellsCI,Value.cells] at hls;obtain⟨l0,h0,h1⟩:=Option.bind_eq_some_iff.1 hls;obtain⟨_,h3,_⟩:=Option.map_eq_some_iff.1 h1;obtain⟨_,h4,_⟩:=Option.bind_eq_some_iff.1 h3;obtain⟨l1,h5,_⟩:=Option.bind_eq_some_iff.1 h4;obtain⟨n0,rfl⟩:=hint _ _ h0;obtain⟨n1,rfl⟩:=hint _ _ h5
   exact⟨(n0,n1),rfl⟩
 | _=>simp[Value.formed,Tryz.underlying268] at hf
theorem cev_inv(v:Value)(y:DataW Unit×List MemPlace)(h:ceR v=some y): ∃c:Val×Val,v=cev c.1 c.2:=let ⟨c,e,_⟩:=ceR_inv h;⟨c,e⟩
theorem infoEn:(Tryz.prog.info? 115).map (fun i=>(i.zero,i.size,i.bytes))=some (some (.agg #[.int .i64 0,.int .i64 0,.int .i64 0,.int .i64 0,.int .i64 0,.int .i64 0]),6,48):=by kernel_rfl
theorem en_at(W:World)(x:Tab.En)(t:TypeId)(b:Nat){c:Array Value}(hc:c=(encEn x).toArray)(hb:b=W.heap.size): ∀j u,(([x]:List Tab.En).flatMap encEn)[j]? = some u→(W.alloc (.cells c t)).cell? ⟨b,j,none⟩=some u:=by
 subst hc;intro j u hu;rw[new_cells W _ t b hb j];simpa using hu
theorem asked_any(n k:Int)(w:World): Calls Tryz.prog 195 #[.agg #[.int .i64 n,.int .i64 k]] w (Gives (.bool true) w):=by
 go_enter Tryz.func195,Tryz.ntmps195;go_wp2;go_ret;exact⟨rfl,gw⟩
def AllPost(m:List Tab.En)(w:World)(e:Ending)(w':World): Prop:=∃v s,e = .returned v∧OwnAt w.heap.size 115 6 encEn w' v s∧s.Perm m∧(s.Pairwise fun a b=>Tab.num a≤Tab.num b)∧Grew w w'
theorem tabSome_any(W:World)(t b n:Nat)(m:List Tab.En)(hT:TableAt W t b n m): Calls Tryz.prog 194 #[.pointer (some ⟨t,0,none⟩),.func (.func 195) #[] #[]] W (AllPost m W):=by
 have tc:=cell_of (o:=0) hT.1;simp at tc;have pt:=Pre.mk (heap_lt hT.1);obtain⟨D,ho,hD⟩:=hT.2;have HO:=hY ho;have HD:=hY hD;have hbW:=ho.lt;clear hT ho hD;go_enter Tryz.func194,Tryz.ntmps194
 go_wp2_with (at_range;refine wpList_range_own _ rfl (.tmp 13) 292 rfl 268 113 cell_law Tryz.underlying292 ceR b n D rfl HO.o ?_;intro W1 hr1 hg1 hs1;(have HR1:=hY hr1);(have HG1:=hY ((Grew.refl W).grown hg1 fun q hq=>by cases hq));clear hr1 hg1 hs1)
 go_simp
 go_loopg [5] (Maps.size D) (fun gg s5 wr=>∃(left:Lit→Bool) (cnt:Nat) (lo:List Tab.En) (vk:Value),cnt≤gg∧vk=s5∧Hid (OwnAt W.heap.size 115 6 encEn wr vk lo)∧Hid (RangesC wr b W.heap.size n D left cnt)∧Hid (Grew W wr)∧Hid (Seen D m lo left))
 case atStart=>exact⟨_,_,[],_,Nat.le_refl _,rfl,hY (OwnAt.nil _),HR1,HG1,hY (Seen.start HD.o)⟩
 case round =>
  obtain⟨left,cnt,lo,vk,hgg,rfl,HOW,HRG,HG,HS⟩:=hrel;have h512:=len512 (fun x hx=>HD.o.there x (HS.o.sub x hx)) HS.o.un;obtain⟨ak,ck,rfl⟩:=(OwnAt.rows HOW.o encEn_len).len
  go_wp2_with (at_next;go_loud (refine wpList_next_ranges _ rfl (.tmp 14) rfl 268 cell_law ceR (fun x:Int×Int=>ceK x.1 x.2) (fun c:Val×Val=>cev c.1 c.2) place_inv cev_inv b W.heap.size n D left cnt rfl HRG.o ?_ ?_))
  ·intro hc0 hl0;have hp:=HS.o.done HD.o hl0;have HP:=hY hp;clear hc0 hl0 hp
   go_wp2_with (go_at_call 222;refine(sortEnts_any W.heap.size _ _ lo (OwnAt.grew HOW.o gw) (fun x hx=>HD.o.there x (HS.o.sub x hx)) (by omega)).mono ?_;rintro e w3 ⟨rfl,l',q1,q2,q3,q4,q5,q6⟩;(have Q1:=hY q1);(have Q2:=hY q2);(have Q3:=hY q3);(have Q6:=hY (q6 W (HG.o.trans gw) (Nat.le_refl _)));clear q1 q2 q3 q4 q5 q6)
   go_ret;exact⟨_,l',rfl,Q1.out,Q2.out.trans HP.o,Q3.out,Q6.out⟩
  ·intro n' k' p0 q0 p1 q1 kl y1 y2 W1 cnt1 hkk hlk hRy hat hrg1 hlt hg1 hs1 hen;have HS1:=hY (HS.o.next HD.o hkk hlk hRy hat);have HG1:=hY (HG.o.grown hg1 fun q hq=>by cases hq;exact Nat.le_refl _);have HO1:Hid (OwnAt W.heap.size 115 6 encEn W1 (.slice ak lo.length ck) lo):=hY (OwnAt.same HOW.o fun q hq=>hg1.block q (by obtain⟨_,cs,hc⟩:=OwnAt.block HOW.o hq;exact heap_lt hc) (fun e=>(rangesC_own HRG.o HOW.o).2 (by rw[hq,e])));have HRG1:=hY hrg1;unfold ceK cev at hen ⊢;clear hkk hlk hRy hat hrg1 hg1 hs1
   go_wp2_with (first
    | (go_at_call 195;refine(asked_any _ _ _).mono ?_;rintro e w3 ⟨rfl,R3,n3,rfl⟩)
    | (at_builtin;go_loud (refine wpList_ownK (w0:=W) rfl (.tmp 23) (.tmp 30) 44 _ _ _ _ [⟨n',k',(p0,q0),(p1,q1)⟩] rfl Tryz.underlying44 infoEn rfl (by decide) encEn_len encEn_one rfl (OwnAt.grew HO1.o gw) (HG1.o.trans gw) rfl (en_at _ _ _ _ rfl (by simp[go_sem])) (by simp;omega) (by decide) (by simp) ?_;intro v5 W5 hA;(have HA:=hY hA);clear hA)))
   have HR5:=hY (rangesC_app (rangesC_grew HRG1.o gw) (OwnAt.grew HO1.o gw) HA.o)
   go_roundg cnt1
   case measure=>omega
   case rel=>exact⟨_,cnt1,_,_,Nat.le_refl _,rfl,hY HA.o.2.1,HR5,hY HA.o.1,HS1⟩
theorem tabAll_any(W:World)(t b n:Nat)(m:List Tab.En)(hT:TableAt W t b n m): Calls Tryz.prog 161 #[.pointer (some ⟨t,0,none⟩)] W (AllPost m W):=by
 have HT:=hY (tabSome_any W t b n m hT);clear hT;go_enter Tryz.func161,Tryz.ntmps161
 go_wp2_with (go_at_call 194;refine HT.o.mono ?_;rintro e w1 ⟨v,s,rfl,h1,h2,h3,h4⟩;obtain⟨ak,ck,rfl⟩:=(OwnAt.rows h1 encEn_len).len;(have H1:=hY h1);(have H2:=hY h2);(have H3:=hY h3);(have H4:=hY h4);clear h1 h2 h3 h4)
 go_ret;exact⟨_,s,rfl,H1.o,H2.o,H3.o,H4.o⟩
def tasksOf(g:List Gr.Nd): List Who:=g.flatMap fun n=>(List.range n.par.toNat).map fun(k:Nat)=>(n.id,(k:Int))
theorem tasksOf_snoc(g:List Gr.Nd)(n:Gr.Nd): tasksOf (g++[n])=tasksOf g++(List.range n.par.toNat).map fun(k:Nat)=>(n.id,(k:Int)):=by
 unfold tasksOf;rw[List.flatMap_append,List.flatMap_cons,List.flatMap_nil,List.append_nil]
theorem tasksOf_len:∀(g:List Gr.Nd),(∀n∈g,n.par≤3)→(tasksOf g).length≤g.length*3
 | [],_=>by simp[tasksOf]
 |n::g,h=>by
  have h1:=tasksOf_len g fun x hx=>h x (List.mem_cons_of_mem _ hx)
  have h2:=h n (List.mem_cons_self ..);unfold tasksOf at h1 ⊢;rw[List.flatMap_cons,List.length_append,List.length_map,List.length_range,List.length_cons];omega
theorem tasksOf_mem{g:List Gr.Nd}{x:Who}: x∈tasksOf g↔∃n∈g,x.1=n.id∧0≤x.2∧x.2<n.par:=by
 obtain⟨a,b⟩:=x;unfold tasksOf;rw[List.mem_flatMap];constructor
 ·rintro⟨n,hn,h⟩;obtain⟨k,hk,e⟩:=List.mem_map.1 h;rw[List.mem_range] at hk;cases e;exact⟨n,hn,rfl,by omega,by omega⟩
 ·rintro⟨n,hn,h1,h2,h3⟩;simp only at h1 h2 h3;refine⟨n,hn,List.mem_map.2 ⟨b.toNat,List.mem_range.2 (by omega),?_⟩⟩;rw[h1,Int.toNat_of_nonneg h2]
theorem perm_so{l l':List Gr.Nd}(hp:l'.Perm l)(h:l.Pairwise fun a b=>a.id<b.id)(h':l'.Pairwise fun a b=>a.id≤b.id): l'=l:=by
 have hu:(l.map (·.id)).Nodup:=by
  rw[List.Nodup,List.pairwise_map];exact h.imp fun {a b} q e=>by omega
 have hu':(l'.map (·.id)).Nodup:=(hp.map (·.id)).nodup_iff.2 hu
 have hs':l'.Pairwise fun a b=>a.id<b.id:=by
  rw[List.Nodup,List.pairwise_map] at hu';exact(h'.and hu').imp fun {a b} ⟨q1,q2⟩=>by omega
 exact hp.eq_of_pairwise (le:=fun a b:Gr.Nd=>a.id<b.id) (fun a b _ _ h1 h2=>by omega) hs' h
theorem norm_so(v:Value)(l:List Gr.Nd)(w:World)(hv:NodesAt w v l)(hs:Small l)(hl:l.length≤19)(ho:l.Pairwise fun a b=>a.id<b.id): Calls Tryz.prog 55 #[v] w (fun e w'=>∃v',e = .returned v'∧NodesAt w' v' l∧Grew w w'):=by
 refine(norm_any v l w hv hs hl).mono ?_;rintro e w' ⟨v',lc,l',rfl,h1,h2,h3,h4,g⟩;obtain rfl:=perm_so h3 ho h4;exact⟨v',rfl,h2.at h1,g⟩
def encWho(x:Who): List Value:=[.int .i64 x.1,.int .i64 x.2]
theorem encWho_len(x:Who): (encWho x).length=2:=rfl
theorem encWho_one(x:Who): ∀u∈encWho x,u.oneCell'=true:=by
 intro u hu;simp[encWho] at hu;rcases hu with rfl|rfl<;>rfl
theorem infoWho:(Tryz.prog.info? 178).map (fun i=>(i.zero,i.size,i.bytes))=some (some (.agg #[.int .i64 0,.int .i64 0]),2,16):=by kernel_rfl
theorem who_at(W:World)(x:Who)(t:TypeId)(b:Nat){c:Array Value}(hc:c=(encWho x).toArray)(hb:b=W.heap.size): ∀j u,(([x]:List Who).flatMap encWho)[j]? = some u→(W.alloc (.cells c t)).cell? ⟨b,j,none⟩=some u:=by
 subst hc;intro j u hu;rw[new_cells W _ t b hb j];simpa using hu
def TasksPost(g:List Gr.Nd)(w:World)(e:Ending)(w':World): Prop:=∃a c,e = .returned (.slice a (tasksOf g).length c)∧OwnAt w.heap.size 178 2 encWho w' (.slice a (tasksOf g).length c) (tasksOf g)∧Grew w w'
theorem snapAll_any(v:Value)(g:List Gr.Nd)(w:World)(hv:NodesAt w v g)(hs:Small g)(hl:g.length≤8)(ho:g.Pairwise fun a b=>a.id<b.id)(hp:∀n∈g,0≤n.par∧n.par≤3): Calls Tryz.prog 129 #[v] w (TasksPost g w):=by
 have HN:=hY fun W (q:Grew w W)=>norm_so v g W (hv.grew q) hs (by omega) ho
 have HP:=hY hp;have HLK:=hY fun k=>tasksOf_len (g.take k) fun n hn=>(hp n (List.mem_of_mem_take hn)).2
 clear hv hs ho hp;go_enter Tryz.func129,Tryz.ntmps129
 go_wp2_with (go_at_call 55;refine(HN.o _ gw).mono ?_;rintro e w1 ⟨v1,rfl,hv1,R1,n1,rfl⟩;obtain⟨a1,c1,rfl,hm1,-⟩:=hv1.openC;(have HV1:=hY hv1);clear hv1)
 have HG1:Hid (Grew w (w.more R1 n1)):=hY gw;generalize hw1:w.more R1 n1=w1 at *;clear hw1
 go_loopg [3,10] g.length (fun gg s3 s10 wr=>∃k:Nat,k≤g.length∧g.length-k≤gg∧s10 = .int .i64 k∧Hid (Grew w1 wr)∧Hid (OwnAt w1.heap.size 178 2 encWho wr s3 (tasksOf (g.take k))))
 case atStart=>exact⟨0,by omega,by omega,rfl,hY (Grew.refl _),hY (OwnAt.nil _)⟩
 case round =>
  obtain⟨k,hk,hgg,rfl,HG,HO⟩:=hrel;by_cases hlt:k<g.length
  ·obtain⟨a',cap',e,-,hx⟩:=(HV1.o.grew HG.o).openC;cases e;obtain⟨b,off,c,rfl,hb,hn,c0,c1,c2,c3,c4,c5,c6,c7,c8,c9,c10,c11,c12⟩:=hx k hlt;obtain⟨p0,p3⟩:=HP.o _ (List.getElem_mem hlt);have HTK:=hY (show tasksOf (g.take (k+1))=_ by rw[List.take_succ_eq_append_getElem hlt,tasksOf_snoc]);have hln:=HLK.o k;rw[List.length_take,Nat.min_eq_left hk] at hln;have hid:=hn.id;have hpar:=hn.par;clear hx hn;generalize g[k]=y at *;obtain⟨cid,kind,af,nf,cf,ap,np,cp,par,r0,r1,r2,r3,r4,r5,r6,r7⟩:=c;simp only at c0 c1 c2 c3 c4 c5 c6 c7 c8 c9 c10 c11 c12 hid hpar;obtain⟨p,hp⟩:∃p:Nat,par=(p:Int):=⟨par.toNat,by omega⟩;subst hp;have HPN:Hid (y.par.toNat=p):=hY (by omega);have hp3:p≤3:=by omega
   have HID:=hY hid;clear hid hpar p0 p3;go_wp2
   go_loopg [3,16] p (fun gg2 s3' s16 wr2=>∃j:Nat,j≤p∧p-j≤gg2∧s16 = .int .i64 j∧Hid (Grew w1 wr2)∧Hid (wr2.heap[wr.heap.size]? = some (.cells #[.int .i64 cid,.int .i64 kind,.slice af nf cf,.slice ap np cp,.int .i64 (p:Int),.int .i64 r0,.int .i64 r1,.int .i64 r2,.int .i64 r3,.int .i64 r4,.int .i64 r5,.int .i64 r6,.int .i64 r7] 52))∧Hid (OwnAt w1.heap.size 178 2 encWho wr2 s3' (tasksOf (g.take k)++(List.range j).map fun(i:Nat)=>(y.id,(i:Int)))))
   case atStart=>exact⟨0,by omega,by omega,rfl,hY (HG.o.trans gw),hY (heap_new_at _ _ _ rfl),hY (by rw[List.range_zero,List.map_nil,List.append_nil];exact OwnAt.grew HO.o gw)⟩
   case round =>
    obtain⟨j,hj,hgg2,rfl,HG2,HB2,HO2⟩:=hrel;by_cases hlt2:j<p
    ·have d0:=cell_of (o:=0) HB2.o;have d4:=cell_of (o:=4) HB2.o;simp at d0 d4;have pd:=Pre.mk (heap_lt HB2.o);have HRS:Hid (((List.range (j+1)).map fun(i:Nat)=>(y.id,(i:Int)))=((List.range j).map fun(i:Nat)=>(y.id,(i:Int)))++[(y.id,(j:Int))]):=hY (by rw[List.range_succ,List.map_append];rfl)
     go_wp2_with (at_builtin;go_loud (refine wpList_ownK (w0:=w1) rfl (.tmp 19) (.tmp 24) 199 _ _ _ _ [(cid,(j:Int))] rfl Tryz.underlying199 infoWho rfl (by decide) encWho_len encWho_one rfl (OwnAt.grew HO2.o gw) (HG2.o.trans gw) rfl (who_at _ _ _ _ rfl (by simp[go_sem])) (by simp;omega) (by decide) (by simp) ?_);intro v7 W7 hA;(have HA:=hY hA);clear hA)
     go_roundg (p-(j+1))
     case measure=>omega
     case rel =>
      obtain⟨q1,q2,q3,q4,q5⟩:=HA.o;refine⟨j+1,by omega,by omega,by go_num,hY q1,hY ?_,hY ?_⟩
      ·rw[q4 _ (by have:=heap_lt HB2.o;simp[go_sem];omega) (OwnAt.other HO2.o HB2.o (by decide))];exact grew_heap gw HB2.o
      ·rw[HRS.o,←List.append_assoc,HID.o];rw[HID.o] at q2;exact q2
    ·obtain rfl:j=p:=by omega
     have d4:=cell_of (o:=4) HB2.o;simp at d4;have pd:=Pre.mk (heap_lt HB2.o);go_wp2
     go_roundg (g.length-(k+1))
     case measure=>omega
     case rel=>exact⟨k+1,by omega,by omega,by go_num,hY (HG2.o.trans gw),hY (by rw[HTK.o,HPN.o];exact OwnAt.grew HO2.o gw)⟩
  ·obtain rfl:k=g.length:=by omega
   have ho:=HO.o;rw[List.take_length] at ho;obtain⟨av,cv,rfl⟩:=(OwnAt.rows ho encWho_len).len;have HO9:=hY ho;clear ho;go_wp2;go_ret;exact⟨_,_,rfl,OwnAt.low HO9.o HG1.o.below.size,HG1.o.trans HG.o⟩
def SlLen(n:Nat)(v:Value)(_:World): Prop:=∃a c,v = .slice a n c
theorem SlLen.st(n:Nat): ∀v w w',SlLen n v w→Grew w w'→SlLen n v w':=fun _ _ _ h _=>h
theorem gather_par{W:World}{x b n:Nat}{g:List Gr.Nd}{ep:Int}{m:List (Who×AkC)}(h:GatherAt W x b n g ep m): ∀n∈g,1≤n.par∧n.par≤3:=fun y hy=>by
 obtain⟨i,hi,e⟩:=List.mem_iff_getElem.1 hy;have:=h.right.ok i y (by rw[List.getElem?_eq_getElem hi,e]);exact⟨this.pr1,this.pr3⟩
theorem missing_any(x b n:Nat)(g:List Gr.Nd)(ep:Int)(m:List (Who×AkC))(w:World)(h:GatherAt w x b n g ep m)(hn:n≤1000): Calls Tryz.prog 74 #[.pointer (some ⟨x,0,none⟩)] w (Gives (.int .i64 ((tasksOf g).length-m.length)) w):=by
 have hgp:=gather_par h;have htl:=tasksOf_len g fun y hy=>(hgp y hy).2
 have hl8:=h.len;have hml:=h.map.len_le;obtain⟨v,hx,hv⟩:=h.cells;have HA:=hY fun W (q:Grew w W)=>snapAll_any v g W (hv.grew q) h.small h.len h.so fun y hy=>by have:=hgp y hy;omega
 have HLEN:=hY fun W (q:Grew w W)=>(h.map.grew q).len Tryz.underlying174 3
 have x0:=cell_of (o:=0) hx;have x2:=cell_of (o:=2) hx;simp at x0 x2;have px:=Pre.mk (heap_lt hx);obtain⟨av,cv,rfl,-,-⟩:=hv.openC;clear h hgp hx hv;go_enter Tryz.func74,Tryz.ntmps74;go_wp2;refine wp_region_seq 13 Tryz.mixed (by kernel_rfl) (by kernel_rfl) ?_
 iterate 4
  apply Seq.val
  focus
   rintro w1 u ⟨R1,n1,rfl⟩ hF;simp[moreFacts,Fact.more,Oper.deps,Region.binds,List.filter_cons,World.more_drew] at hF;simp[putFacts,Oper.deps,Region.binds,List.filter_cons,Region.dstOf,Fact.at,Act.put,World.more_drew];go_wp2;exact⟨gw,rfl,_,_,rfl,rfl,rfl⟩
 apply Seq.of (SlLen (tasksOf g).length) (SlLen.st _)
 focus
  rintro w1 u ⟨R1,n1,rfl⟩ hF;simp[moreFacts,Fact.more,Oper.deps,Region.binds,List.filter_cons,World.more_drew] at hF;simp[putFacts,Oper.deps,Region.binds,List.filter_cons,Region.dstOf,Fact.at,Act.put,World.more_drew]
  go_wp2_with (first
   | (go_at_call 129;go_loud (refine(HA.o _ gw).mono ?_);rintro e w2 ⟨a2,c2,rfl,-,R3,n3,rfl⟩)
   )
  exact⟨gw,rfl,_,_,rfl,rfl,⟨_,_,rfl⟩⟩
 apply Seq.val
 focus
  rintro w1 u ⟨R1,n1,rfl⟩ hF;simp[moreFacts,Fact.more,Oper.deps,Region.binds,List.filter_cons,World.more_drew] at hF;simp[putFacts,Oper.deps,Region.binds,List.filter_cons,Region.dstOf,Fact.at,Act.put,World.more_drew];obtain⟨a2,c2,hu⟩:=hF;rw[hu];go_wp2;exact⟨gw,rfl,_,_,rfl,rfl,rfl⟩
 iterate 4
  apply Seq.val
  focus
   rintro w1 u ⟨R1,n1,rfl⟩ hF;simp[moreFacts,Fact.more,Oper.deps,Region.binds,List.filter_cons,World.more_drew] at hF;simp[putFacts,Oper.deps,Region.binds,List.filter_cons,Region.dstOf,Fact.at,Act.put,World.more_drew];go_wp2;exact⟨gw,rfl,_,_,rfl,rfl,rfl⟩
 apply Seq.val
 focus
  rintro w1 u ⟨R1,n1,rfl⟩ hF;simp[moreFacts,Fact.more,Oper.deps,Region.binds,List.filter_cons,World.more_drew] at hF;simp[putFacts,Oper.deps,Region.binds,List.filter_cons,Region.dstOf,Fact.at,Act.put,World.more_drew];have hlm:=HLEN.o (w.more R1 n1) gw;go_wp2;exact⟨gw,rfl,_,_,rfl,rfl,rfl⟩
 iterate 2
  apply Seq.val
  focus
   rintro w1 u ⟨R1,n1,rfl⟩ hF;simp[moreFacts,Fact.more,Oper.deps,Region.binds,List.filter_cons,World.more_drew] at hF;simp[putFacts,Oper.deps,Region.binds,List.filter_cons,Region.dstOf,Fact.at,Act.put,World.more_drew];go_wp2;exact⟨gw,rfl,_,_,rfl,rfl,rfl⟩
 rintro u w1 ⟨R1,n1,rfl⟩ hF;clear hF;simp[putFacts,Region.dstOf,Fact.at,Act.put,List.range_succ,World.more_drew];go_wp2;go_ret;exact⟨by rfl,gw⟩
theorem right_norm{g:List Gr.Nd}(h:Gr.RightR g): Gr.RightR (Gr.normG g):=h.perm (Gr.normG_perm h.ids h.r7).symm
theorem right_par{g:List Gr.Nd}(h:Gr.RightR g): ∀n∈g,(1≤n.par∧n.par≤3)∧∀t∈n.route,0≤t∧t<n.par:=fun n hn=>by
 obtain⟨i,hi,e⟩:=List.mem_iff_getElem.1 hn;have:=h.ok i n (by rw[List.getElem?_eq_getElem hi,e]);exact⟨⟨this.pr1,this.pr3⟩,this.rt⟩
theorem nodeOf_norm{g:List Gr.Nd}(h:Gr.RightR g)(x:Int): Gr.nodeOf (Gr.normG g) x=Gr.nodeOf g x:=by
 have hp:=Gr.normG_perm h.ids h.r7;exact Gr.bind_perm hp ((Gr.perm_ids hp).nodup_iff.2 h.ids) x
theorem checkR_pos{g:List Gr.Nd}(h:¬Gr.RightR g): (checkR g != 0)=true:=by
 by_cases h8:g.length≤8
 ·rw[checkR_bad h8 h];rfl
 ·rw[checkR_long (by omega)];rfl
theorem checkR_nil{g:List Gr.Nd}(h:Gr.RightR g): checkR g=0:=checkR_ok h.len h
theorem small_norm{g:List Gr.Nd}(h:Gr.RightR g)(hs:Small g): Small (Gr.normG g):=fun n hn=>hs n ((Gr.normG_mem h.ids h.r7 n).1 hn)
theorem normO_any(v:Value)(g:List Gr.Nd)(w:World)(hv:NodesAt w v g)(hs:Small g)(h:Gr.RightR g): Calls Tryz.prog 55 #[v] w (fun e w'=>∃v' lc,e = .returned v'∧NodesOwn w.heap.size w' v' lc∧NodesIn w.heap.size w' lc (Gr.normG g)∧Grew w w'):=by
 refine(norm_any v g w hv hs (by have:=h.len;omega)).mono ?_;rintro e w' ⟨v',lc,l',rfl,h1,h2,h3,h4,gw⟩;obtain rfl:=Gr.norm_unique h3 h4 h.ids h.r7;exact⟨v',lc,rfl,h1,h2,gw⟩
def NodesV(base:Nat)(g:List Gr.Nd)(v:Value)(w:World): Prop:=∃a c lc,v = .slice a g.length c∧NodesOwn base w v lc∧NodesIn base w lc g
theorem NodesV.keep{base:Nat}{g:List Gr.Nd}{v:Value}{w w':World}(h:NodesV base g v w)(hk:∀b,base≤b→b<w.heap.size→w'.heap[b]? = w.heap[b]?): NodesV base g v w':=by
 obtain⟨a,c,lc,h1,h2,h3⟩:=h;refine⟨a,c,lc,h1,OwnAt.same h2 fun b hb=>?_,Rel.mono (fun c n ⟨q1,q2⟩=>?_) h3⟩
 ·obtain⟨q,cs,hc⟩:=OwnAt.block h2 hb;exact hk b q (heap_lt hc)
 ·have q3:=q2.to hk;exact⟨q3.is q1,q3⟩
theorem NodesV.st(base:Nat)(g:List Gr.Nd): ∀v w w',NodesV base g v w→Grew w w'→NodesV base g v w':=fun _ _ _ h q=>h.keep fun b _ hb=>q.below.block b hb
theorem NodesV.low{base base':Nat}{g:List Gr.Nd}{v:Value}{w:World}(h:NodesV base g v w)(hb:base'≤base): NodesV base' g v w:=by
 obtain⟨a,c,lc,h1,h2,h3⟩:=h;exact⟨a,c,lc,h1,OwnAt.low h2 hb,Rel.mono (fun c n ⟨q1,q2⟩=>⟨q1,q2.low hb⟩) h3⟩
theorem NodesV.at'{base:Nat}{g:List Gr.Nd}{v:Value}{w:World}(h:NodesV base g v w): NodesAt w v g:=by
 obtain⟨a,c,lc,h1,h2,h3⟩:=h;exact h3.at h2
def badE(g:List Gr.Nd)(x:Tab.En): Bool:=match Gr.nodeOf g x.node with
 | none=>true
 | some n=>n.kind != 1
theorem remFits1_any(B:Nat)(a:Option Addr)(cap:Nat)(g:List Gr.Nd)(W:World)(x:Tab.En)(hg:NodesAt W (.slice a g.length cap) g)(hs:Small g)(hB:W.cell? ⟨B,0,none⟩=some (.slice a g.length cap)): Calls Tryz.prog 215 #[.agg #[.int .i64 x.node,.int .i64 x.key,.int .i64 x.c0.1,.int .i64 x.c0.2,.int .i64 x.c1.1,.int .i64 x.c1.2],.pointer (some ⟨B,0,none⟩)] W (Gives (.bool (badE g x)) W):=by
 obtain⟨nd,ky,⟨p0,q0⟩,⟨p1,q1⟩⟩:=x;have HF:=hY fun W' (h:Grew W W')=>find_any _ g nd W' (hg.grew h) hs
 have pB:=Pre.ofCell hB;show Calls Tryz.prog _ #[.agg #[.int .i64 nd,.int .i64 ky,.int .i64 p0,.int .i64 q0,.int .i64 p1,.int .i64 q1],.pointer (some ⟨B,0,none⟩)] W _;clear hg hs
 cases hn:Gr.nodeOf g nd with
 |none =>
  have hb:badE g ⟨nd,ky,(p0,q0),(p1,q1)⟩=true:=by unfold badE;simp only;rw[hn]
  rw[hb];rw[hn] at HF;clear hb hn;go_enter Tryz.func215,Tryz.ntmps215
  go_wp2_with (go_at_call 76;refine(HF.o _ gw).mono ?_;rintro e w1 ⟨rfl,R1,n1,rfl⟩)
  go_ret
  exact⟨rfl,gw⟩
 |some n =>
  have hb:badE g ⟨nd,ky,(p0,q0),(p1,q1)⟩=(n.kind != 1):=by unfold badE;simp only;rw[hn]
  rw[hb];rw[hn] at HF;clear hb hn;go_enter Tryz.func215,Tryz.ntmps215
  go_wp2_with (go_at_call 76;refine(HF.o _ gw).mono ?_;rintro e w1 ⟨c,rfl,h1,-,R1,n1,rfl⟩;(have hk:=h1.kind);obtain⟨cid,kind,af,cf,ap,cp,par,r0,r1,r2,r3,r4,r5,r6,r7,rfl⟩:=h1.lit;simp only at hk;(have HKD:=hY hk);clear h1 hk)
  go_ret;exact⟨by rw[HKD.o];rfl,gw⟩
theorem remFits_any(W:World)(t b n:Nat)(m:List Tab.En)(v:Value)(g:List Gr.Nd)(hT:TableAt W t b n m)(hv:NodesAt W v g)(hs:Small g): Calls Tryz.prog 187 #[.pointer (some ⟨t,0,none⟩),v] W (Gives (.bool (!(m.any (badE g)))) W):=by
 have HA:=hY fun W' (h:Grew W W')=>tabAll_any W' t b n m (hT.grew h)
 have HV:=hY hv;have HS:=hY hs;obtain⟨a,cap,rfl,-,-⟩:=hv.openC;have HC:=hY fun W' (h:Grew W W') B s u (hB:W'.cell? ⟨B,0,none⟩=some (.slice a g.length cap)) (hu:EntsAt W' u s)=>containsEn_any B u s (badE g) W' hu fun W2 x _ g2=>remFits1_any B a cap g W2 x (hv.grew (h.trans g2)) hs (below_keeps g2.below _ _ hB)
 clear hT hv hs;go_enter Tryz.func187,Tryz.ntmps187
 go_wp2_with (first
  | (go_at_call 161;refine(HA.o _ gw).mono ?_;rintro e w1 ⟨v1,s,rfl,h1,h2,h3,R1,n1,rfl⟩;(have HE:=hY (OwnAt.rows h1 encEn_len));obtain⟨a1,c1,rfl⟩:=HE.o.len;(have hany:=h2.any_eq (f:=badE g));(have HANY:=hY hany);clear h1 h2 h3 hany)
  | (go_at_call 214;refine(HC.o _ gw _ s _ (by simp[go_sem]) (HE.o.grew gw)).mono ?_;rintro e w1 ⟨rfl,R2,n2,rfl⟩;rw[HANY.o]))
 go_ret;exact⟨rfl,gw⟩
open Classical in
noncomputable def entB(l:List Tab.En)(g:List Gr.Nd): Bool:=newOk l&&(decide ((l.Pairwise fun a b=>Tab.num a<Tab.num b)∧∀x∈l,Tab.nz x=true) && !(l.any (badE g)))
theorem entB_no{l:List Tab.En}{g:List Gr.Nd}(h:newOk l=false): entB l g=false:=by unfold entB;rw[h];rfl
open Classical in
theorem entries_any(v u:Value)(l:List Tab.En)(g:List Gr.Nd)(w:World)(hv:EntsAt w v l)(hu:NodesAt w u g)(hs:Small g)(hl:l.length≤100000): Calls Tryz.prog 144 #[v,u] w (Gives (.bool (entB l g)) w):=by
 have HN:=hY fun W (h:Grew w W)=>tabNew_any _ l W (hv.grew h) hl
 have HV:=hY hv;have HU:=hY hu;obtain⟨a,cap,rfl,-,-⟩:=EntsAt.open6 hv;obtain⟨a2,cap2,rfl,-,-⟩:=hu.openC;clear hv hu;cases hok:newOk l
 case false =>
  rw[entB_no hok];have HOK:=hY hok;clear hok hs;go_enter Tryz.func144,Tryz.ntmps144
  go_wp2_with fail
  refine(HN.o _ gw).mono ?_;rintro e w1 (⟨h1,-⟩|⟨-,rfl,R1,n1,rfl⟩)
  ·rw[HOK.o] at h1;cases h1
  go_wp2;go_ret;exact⟨rfl,gw⟩
 have HOK:=hY hok;by_cases hP:(l.Pairwise fun a b=>Tab.num a<Tab.num b)∧∀x∈l,Tab.nz x=true
 case neg =>
  have hb:entB l g=false:=by unfold entB;rw[hok,decide_eq_false hP];rfl
  rw[hb];have HP:=hY hP;clear hok hb hP hs;go_enter Tryz.func144,Tryz.ntmps144
  go_wp2_with fail
  refine(HN.o _ gw).mono ?_;rintro e w1 (⟨-,t,b,rfl,hT,hb1,hb2,R1,n1,rfl⟩|⟨h1,-⟩);rotate_left
  ·rw[HOK.o] at h1;cases h1
  have HT:=hY hT;clear hT
  go_wp2_with fail
  refine(tabAll_any _ t b _ _ (HT.o.grew gw)).mono ?_;rintro e w2 ⟨v1,s,rfl,h1,h2,h3,R2,n2,rfl⟩;have HE:=hY (OwnAt.rows h1 encEn_len);obtain⟨a3,c3,rfl⟩:=HE.o.len;have HNE:=hY (decide_eq_false (fun e=>HP.o ((Tab.all_iff h2 h3).1 e)));clear h1 h2 h3
  go_wp2_with (go_at_call 70;refine(eqEns_any _ _ s l _ (HE.o.grew gw) (HV.o.grew gw)).mono ?_;rintro e w1 ⟨rfl,R3,n3,rfl⟩;rw[HNE.o])
  go_ret;exact⟨rfl,gw⟩
 have hany:(Tab.newT l).any (badE g)=l.any (badE g):=by rw[Tab.newT_rev l hP.1 hP.2,List.any_reverse]
 have hb:entB l g = !(l.any (badE g)):=by unfold entB;rw[hok,decide_eq_true hP];rfl
 rw[hb];have HP:=hY hP;have HANY:=hY hany;clear hok hb hP hany;go_enter Tryz.func144,Tryz.ntmps144
 go_wp2_with fail
 refine(HN.o _ gw).mono ?_;rintro e w1 (⟨-,t,b,rfl,hT,hb1,hb2,R1,n1,rfl⟩|⟨h1,-⟩);rotate_left
 ·rw[HOK.o] at h1;cases h1
 have HT:=hY hT;have HS:=hY hs;clear hT hs
 go_wp2_with fail
 refine(tabAll_any _ t b _ _ (HT.o.grew gw)).mono ?_;rintro e w2 ⟨v1,s,rfl,h1,h2,h3,R2,n2,rfl⟩;have HE:=hY (OwnAt.rows h1 encEn_len);obtain⟨a3,c3,rfl⟩:=HE.o.len;have HNE:=hY (decide_eq_true ((Tab.all_iff h2 h3).2 HP.o));clear h1 h2 h3
 go_wp2_with (first
  | (go_at_call 70;refine(eqEns_any _ _ s l _ (HE.o.grew gw) (HV.o.grew gw)).mono ?_;rintro e w1 ⟨rfl,R3,n3,rfl⟩;rw[HNE.o])
  | (go_at_call 187;refine(remFits_any _ t b _ _ _ g (HT.o.grew gw) (HU.o.grew gw) HS.o).mono ?_;rintro e w1 ⟨rfl,R4,n4,rfl⟩;rw[HANY.o]))
 go_ret;exact⟨rfl,gw⟩
abbrev UnE(m:List Tab.En): Prop:=m.Pairwise fun a b=>Tab.num a≠Tab.num b
def ofP(nd:Int)(gs:List Int)(x:Tab.En): Bool:=decide (x.node=nd)&&decide (x.key%8∈gs)
theorem grew_cell{W W':World}{a:Addr}{u:Value}(g:Grew W W')(h:W.cell? a=some u): W'.cell? a=some u:=below_keeps g.below a u h
theorem tmod8r(k:Int): -8<k.tmod 8∧k.tmod 8<8∧(k.tmod 8)%8=k%8:=by
 rw[Int.tmod_eq_emod];split<;>simp<;>omega
theorem tmod8(k:Int): (k.tmod 8+8).tmod 8=k%8:=by
 obtain⟨h1,h2,h3⟩:=tmod8r k;rw[Int.tmod_eq_emod_of_nonneg (by omega)];omega
theorem group_any(k:Int)(w:World): Calls Tryz.prog 243 #[.int .i64 k] w fun e w'=>e = .returned (.int .i64 (k%8))∧w=w':=by
 obtain⟨h1,h3,-⟩:=tmod8r k;have h2:=tmod8 k;go_enter Tryz.func243,Tryz.ntmps243;go_wp2;go_ret;exact⟨rfl,rfl⟩
theorem askedOf_any(n k nd:Int)(gs:List Int)(vg:Value)(B1 B2:Nat)(W:World)(h1:W.cell? ⟨B1,0,none⟩=some (.int .i64 nd))(h2:W.cell? ⟨B2,0,none⟩=some vg)(hgs:IntsAt W vg gs):
  Calls Tryz.prog 242 #[.agg #[.int .i64 n,.int .i64 k],.pointer (some ⟨B1,0,none⟩),.pointer (some ⟨B2,0,none⟩)] W (Gives (.bool (ofP nd gs ⟨n,k,(0,0),(0,0)⟩)) W):=by
 have HC:=hY fun W2 (g:Grew W W2)=>containsI_any vg gs (k%8) W2 (hgs.grew g)
 have p1:=Pre.ofCell h1;have p2:=Pre.ofCell h2;obtain⟨ag,cg,rfl⟩:=hgs.len;clear hgs;by_cases hn:n=nd
 ·subst hn;have hb:ofP n gs ⟨n,k,(0,0),(0,0)⟩=decide (k%8∈gs):=by unfold ofP;simp
  rw[hb];clear hb;go_enter Tryz.func242,Tryz.ntmps242;go_wp2
  go_quiet (first|(go_at_call 243;refine Calls.quiet_of_same ((group_any _ _).mono fun e w' h=>⟨h.1,h.2.symm⟩))|(go_at_call 31;refine Calls.quiet_of_same (HC.o _ gw)))
  go_wp2;go_ret;exact⟨rfl,gw⟩
 ·have hb:ofP nd gs ⟨n,k,(0,0),(0,0)⟩=false:=by unfold ofP;simp[hn]
  rw[hb];clear hb;go_enter Tryz.func242,Tryz.ntmps242;go_wp2
  go_quiet (fail)
  go_wp2;go_ret;exact⟨rfl,gw⟩
theorem tabSomeOf_any(W:World)(t b n:Nat)(m:List Tab.En)(hT:TableAt W t b n m)(nd:Int)(gs:List Int)(vg:Value)(B1 B2:Nat)(hB1:W.cell? ⟨B1,0,none⟩=some (.int .i64 nd))(hB2:W.cell? ⟨B2,0,none⟩=some vg)(hgs:IntsAt W vg gs): Calls Tryz.prog 194 #[.pointer (some ⟨t,0,none⟩),.func (.func 242) #[] #[.pointer (some ⟨B1,0,none⟩),.pointer (some ⟨B2,0,none⟩)]] W (AllPost (m.filter (ofP nd gs)) W):=by
 have tc:=cell_of (o:=0) hT.1;simp at tc;have pt:=Pre.mk (heap_lt hT.1);obtain⟨D,ho,hD⟩:=hT.2;have HO:=hY ho;have HD:=hY hD;have hbW:=ho.lt;have HAS:=hY fun n k W2 (g:Grew W W2)=>askedOf_any n k nd gs vg B1 B2 W2 (grew_cell g hB1) (grew_cell g hB2) (hgs.grew g)
 clear hT ho hD hB1 hB2 hgs;go_enter Tryz.func194,Tryz.ntmps194
 go_wp2_with (at_range;refine wpList_range_own _ rfl (.tmp 13) 292 rfl 268 113 cell_law Tryz.underlying292 ceR b n D rfl HO.o ?_;intro W1 hr1 hg1 hs1;(have HR1:=hY hr1);(have HG1:=hY ((Grew.refl W).grown hg1 fun q hq=>by cases hq));clear hr1 hg1 hs1)
 go_simp
 go_loopg [5] (Maps.size D) (fun gg s5 wr=>∃(left:Lit→Bool) (cnt:Nat) (lo:List Tab.En) (vk:Value),cnt≤gg∧vk=s5∧Hid (OwnAt W.heap.size 115 6 encEn wr vk (lo.filter (ofP nd gs)))∧Hid (RangesC wr b W.heap.size n D left cnt)∧Hid (Grew W wr)∧Hid (Seen D m lo left))
 case atStart=>exact⟨_,_,[],_,Nat.le_refl _,rfl,hY (OwnAt.nil _),HR1,HG1,hY (Seen.start HD.o)⟩
 case round =>
  obtain⟨left,cnt,lo,vk,hgg,rfl,HOW,HRG,HG,HS⟩:=hrel;have h512:=len512 (fun x hx=>HD.o.there x (HS.o.sub x hx)) HS.o.un;have hfl:=List.length_filter_le (ofP nd gs) lo;obtain⟨ak,ck,rfl⟩:=(OwnAt.rows HOW.o encEn_len).len
  go_wp2_with (at_next;go_loud (refine wpList_next_ranges _ rfl (.tmp 14) rfl 268 cell_law ceR (fun x:Int×Int=>ceK x.1 x.2) (fun c:Val×Val=>cev c.1 c.2) place_inv cev_inv b W.heap.size n D left cnt rfl HRG.o ?_ ?_))
  ·intro hc0 hl0;have hp:=HS.o.done HD.o hl0;have HP:=hY hp;clear hc0 hl0 hp
   go_wp2_with (go_at_call 222;refine(sortEnts_any W.heap.size _ _ (lo.filter (ofP nd gs)) (OwnAt.grew HOW.o gw) (fun x hx=>HD.o.there x (HS.o.sub x (List.mem_filter.1 hx).1)) (by omega)).mono ?_;rintro e w3 ⟨rfl,l',q1,q2,q3,q4,q5,q6⟩;(have Q1:=hY q1);(have Q2:=hY q2);(have Q3:=hY q3);(have Q6:=hY (q6 W (HG.o.trans gw) (Nat.le_refl _)));clear q1 q2 q3 q4 q5 q6)
   go_ret;exact⟨_,l',rfl,Q1.out,Q2.out.trans (HP.o.filter _),Q3.out,Q6.out⟩
  ·intro n' k' p0 q0 p1 q1 kl y1 y2 W1 cnt1 hkk hlk hRy hat hrg1 hlt hg1 hs1 hen;have HS1:=hY (HS.o.next HD.o hkk hlk hRy hat);have HG1:=hY (HG.o.grown hg1 fun q hq=>by cases hq;exact Nat.le_refl _);have HO1:Hid (OwnAt W.heap.size 115 6 encEn W1 (.slice ak (lo.filter (ofP nd gs)).length ck) (lo.filter (ofP nd gs))):=hY (OwnAt.same HOW.o fun q hq=>hg1.block q (by obtain⟨_,cs,hc⟩:=OwnAt.block HOW.o hq;exact heap_lt hc) (fun e=>(rangesC_own HRG.o HOW.o).2 (by rw[hq,e])));have HRG1:=hY hrg1;unfold ceK cev at hen ⊢;clear hkk hlk hRy hat hrg1 hg1 hs1;cases hof:ofP nd gs ⟨n',k',(p0,q0),(p1,q1)⟩
   ·have HFL:Hid ((lo++[(⟨n',k',(p0,q0),(p1,q1)⟩:Tab.En)]).filter (ofP nd gs)=lo.filter (ofP nd gs)):=hY (by rw[List.filter_append,List.filter_cons,hof];simp);have HOF:Hid (ofP nd gs ⟨n',k',(0,0),(0,0)⟩=false):=hY hof;clear hof
    go_wp2_with (go_at_call 242;refine(HAS.o _ _ _ (HG1.o.trans gw)).mono ?_;rintro e w3 ⟨rfl,R3,n3,rfl⟩;rw[HOF.o])
    go_roundg cnt1
    case measure=>omega
    case rel=>exact⟨_,cnt1,_,_,Nat.le_refl _,rfl,hY (by rw[HFL.o];exact OwnAt.grew HO1.o gw),hY (rangesC_grew HRG1.o gw),hY (HG1.o.trans gw),HS1⟩
   ·have HFL:Hid ((lo++[(⟨n',k',(p0,q0),(p1,q1)⟩:Tab.En)]).filter (ofP nd gs)=lo.filter (ofP nd gs)++[(⟨n',k',(p0,q0),(p1,q1)⟩:Tab.En)]):=hY (by rw[List.filter_append,List.filter_cons,hof];simp);have HOF:Hid (ofP nd gs ⟨n',k',(0,0),(0,0)⟩=true):=hY hof;clear hof
    go_wp2_with (first
     | (go_at_call 242;refine(HAS.o _ _ _ (HG1.o.trans gw)).mono ?_;rintro e w3 ⟨rfl,R3,n3,rfl⟩;rw[HOF.o])
     | (at_builtin;go_loud (refine wpList_ownK (w0:=W) rfl (.tmp 23) (.tmp 30) 44 _ _ _ _ [⟨n',k',(p0,q0),(p1,q1)⟩] rfl Tryz.underlying44 infoEn rfl (by decide) encEn_len encEn_one rfl (OwnAt.grew HO1.o gw) (HG1.o.trans gw) rfl (en_at _ _ _ _ rfl (by simp[go_sem])) (by simp;omega) (by decide) (by simp) ?_;intro v5 W5 hA;(have HA:=hY hA);clear hA)))
    have HR5:=hY (rangesC_app (rangesC_grew HRG1.o gw) (OwnAt.grew HO1.o gw) HA.o)
    go_roundg cnt1
    case measure=>omega
    case rel=>exact⟨_,cnt1,_,_,Nat.le_refl _,rfl,hY (by rw[HFL.o];exact HA.o.2.1),HR5,hY HA.o.1,HS1⟩
theorem tabOf_any(W:World)(t b n:Nat)(m:List Tab.En)(hT:TableAt W t b n m)(nd:Int)(gs:List Int)(vg:Value)(hgs:IntsAt W vg gs): Calls Tryz.prog 235 #[.pointer (some ⟨t,0,none⟩),.int .i64 nd,vg] W (AllPost (m.filter (ofP nd gs)) W):=by
 have HT:=hY hT;have HGS:=hY hgs;obtain⟨ag,cg,rfl⟩:=hgs.len;clear hT hgs;go_enter Tryz.func235,Tryz.ntmps235
 go_wp2_with (go_at_call 194;go_loud (refine(tabSomeOf_any _ t b n m (HT.o.grew gw) nd gs _ _ _ (by simp[go_sem]) (by simp[go_sem]) (HGS.o.grew gw)).mono ?_);rintro e w1 ⟨v,s,rfl,h1,h2,h3,h4⟩;obtain⟨ak,ck,rfl⟩:=(OwnAt.rows h1 encEn_len).len;(have H1:=hY h1);(have H2:=hY h2);(have H3:=hY h3);(have H4:=hY h4);clear h1 h2 h3 h4)
 go_ret;exact⟨_,s,rfl,OwnAt.low H1.o (by simp[World.size_alloc];omega),H2.o,H3.o,Grew.trans gw H4.o⟩
def getT(m:List Tab.En)(n k:Int): Val×Val:=match m.find? fun x=>Tab.num x==n*64+k with
 | none=>((0,0),(0,0))
 | some x=>(x.c0,x.c1)
theorem getT_is{m:List Tab.En}(hu:UnE m){x:Tab.En}(hx:x∈m){n k:Int}(h:Tab.num x=n*64+k): getT m n k=(x.c0,x.c1):=by
 unfold getT
 cases hf:m.find? fun x=>Tab.num x==n*64+k with
 |none =>
  have:=List.find?_eq_none.1 hf x hx
  simp[h] at this
 |some y =>
  have h1:=List.find?_some hf;have h2:=List.mem_of_find?_eq_some hf;have h3:Tab.num y=n*64+k:=by simpa using h1
  rw[un_eq hu h2 hx (h3.trans h.symm)]
theorem getT_cases(m:List Tab.En)(n k:Int): (∃x∈m,Tab.num x=n*64+k∧getT m n k=(x.c0,x.c1))∨((∀x∈m,Tab.num x≠n*64+k)∧getT m n k=((0,0),(0,0))):=by
 cases hf:m.find? fun x=>Tab.num x==n*64+k with
 |none =>
  have:=List.find?_eq_none.1 hf;refine .inr ⟨fun x hx=>by simpa using this x hx,?_⟩;unfold getT
  rw[hf]
 |some y =>
  have h1:=List.find?_some hf;have h2:=List.mem_of_find?_eq_some hf;refine .inl ⟨y,h2,by simpa using h1,?_⟩;unfold getT;rw[hf]
theorem nz_get{x:Tab.En}(h:Tab.nz x=true): (x.c0,x.c1)≠(((0,0),(0,0)):Val×Val):=by
 unfold Tab.nz at h;intro e;injection e with e1 e2
 rw[e1,e2] at h;simp at h
theorem setT_mem{m:List Tab.En}{x y:Tab.En}(h:y∈Tab.setT m x): y=x∨(y∈m∧Tab.num y≠Tab.num x):=by
 unfold Tab.setT at h;split at h
 ·rcases List.mem_cons.1 h with h|h
  ·exact .inl h
  ·exact .inr ⟨(List.mem_filter.1 h).1,by simpa using (List.mem_filter.1 h).2⟩
 ·exact .inr ⟨(List.mem_filter.1 h).1,by simpa using (List.mem_filter.1 h).2⟩
theorem setT_un{m:List Tab.En}(h:UnE m)(x:Tab.En): UnE (Tab.setT m x):=by
 unfold Tab.setT;split
 ·refine List.pairwise_cons.2 ⟨fun y hy e=>?_,h.filter _⟩;have:=(List.mem_filter.1 hy).2;simp[e] at this
 ·exact h.filter _
structure OkT (m:List Tab.En):Prop where
 un:UnE m
 nz:∀x∈m,Tab.nz x=true
 ok:∀x∈m,okEn x=true
theorem okEn_there{x:Tab.En}(h:okEn x=true): There x:=by
 unfold okEn at h;rw[Bool.and_eq_true] at h;exact thereB_iff.1 h.1
theorem OkT.there{m:List Tab.En}(h:OkT m): ∀x∈m,There x:=fun x hx=>okEn_there (h.ok x hx)
theorem OkT.nil:OkT []:=⟨List.Pairwise.nil,fun x hx=>(by cases hx),fun x hx=>(by cases hx)⟩
theorem OkT.set{m:List Tab.En}(h:OkT m){x:Tab.En}(hx:okEn x=true): OkT (Tab.setT m x):=by
 refine⟨setT_un h.un x,fun y hy=>?_,fun y hy=>?_⟩
 ·unfold Tab.setT at hy;split at hy
  ·rcases List.mem_cons.1 hy with rfl|h2
   ·assumption
   ·exact h.nz y (List.mem_filter.1 h2).1
  ·exact h.nz y (List.mem_filter.1 hy).1
 ·rcases setT_mem hy with rfl|⟨h2,_⟩
  ·exact hx
  ·exact h.ok y h2
theorem OkT.filter{m:List Tab.En}(h:OkT m)(p:Tab.En→Bool): OkT (m.filter p):=⟨h.un.filter _,fun x hx=>h.nz x (List.mem_filter.1 hx).1,fun x hx=>h.ok x (List.mem_filter.1 hx).1⟩
theorem OkT.new{l:List Tab.En}(h:newOk l=true): OkT (Tab.newT l):=by
 have ho:=Tab.newT_ok l;unfold newOk at h;rw[List.all_eq_true] at h;exact⟨ho.un,ho.nz,fun x hx=>h x (ho.sub x hx)⟩
theorem OkT.perm{m m':List Tab.En}(h:OkT m)(h':OkT m')(he:∀n k:Int,0≤n→n<8→0≤k→k<64→getT m n k=getT m' n k): m.Perm m':=by
 have hn:∀{l:List Tab.En},UnE l→l.Nodup:=fun hp=>by
  rw[List.nodup_iff_pairwise_ne];exact hp.imp fun h e=>h (by rw[e])
 have half:∀{m m':List Tab.En},OkT m→OkT m'→(∀n k:Int,0≤n→n<8→0≤k→k<64→getT m n k=getT m' n k)→∀x∈m,x∈m':=by
  intro m m' h h' he x hx;have ht:=h.there x hx;unfold There at ht;have e1:=getT_is h.un hx (n:=x.node) (k:=x.key) rfl;have e2:=he x.node x.key (by omega) (by omega) (by omega) (by omega);rcases getT_cases m' x.node x.key with ⟨y,hy,h1,h2⟩|⟨h1,h2⟩
  ·have hy':=h'.there y hy;obtain⟨q1,q2⟩:=(hy'.inj (h.there x hx)).1 (h1.trans rfl);rw[e1,h2] at e2;injection e2 with e3 e4
   obtain⟨a,b,c,d⟩:=x;obtain⟨a',b',c',d'⟩:=y;simp only at q1 q2 e3 e4;subst q1 q2 e3 e4;exact hy
  ·rw[e1,h2] at e2;exact absurd e2 (nz_get (h.nz x hx))
 rw[List.perm_ext_iff_of_nodup (hn h.un) (hn h'.un)];exact fun x=>⟨half h h' he x,half h' h (fun n k a b c d=>(he n k a b c d).symm) x⟩
end Go.Proofs.YtipgfjihdglocaaGreat
