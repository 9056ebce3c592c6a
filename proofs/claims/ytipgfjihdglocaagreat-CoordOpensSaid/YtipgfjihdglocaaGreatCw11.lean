import Derived.Test.YtipgfjihdglocaaGreatCw4
import Derived.Test.YtipgfjihdglocaaGreatCw0
import Derived.Test.YtipgfjihdglocaaGreatCw3
import Derived.Test.YtipgfjihdglocaaGreatCw6
import Derived.Lib.LaidTab
import Derived.Lib.ConvBytes
import Derived.WalkSmall
import Derived.Test.YtipgfjihdglocaaGreatCw5
import Derived.DeepKeys4
import Derived.DeepKeys5
import Derived.Maps.Views
import Derived.Maps.OwnSet
import Derived.Maps.RangeWalk
import Derived.Deep.LoopGhost
import Derived.ChangeKeysEq
import Derived.Deep.QuietTactic
import Derived.BigQuiet
set_option linter.unusedSimpArgs false
set_option linter.unusedVariables false
set_option maxRecDepth 100000
set_option maxHeartbeats 64000000
namespace Go.Proofs.YtipgfjihdglocaaGreat
open Go.RowKit Ga
theorem grew_bytes(w:World)(t:TypeId)(x:ByteArray): Grew w (Lib.bytesWorld w t x):=by
 apply Grew.ofBelow;unfold Lib.bytesWorld;exact below_freeze (((Below.refl _ _).drew).alloc (Nat.le_refl _) _) (p:=⟨w.heap.size,_,none⟩) (Nat.le_refl w.heap.size) _
def Pow (w : World) : Prop := Lib.TabIs Tryz.prog w "internal/strconv.uint64pow10" .u64 Lib.pow10Tab
theorem var_grew{n:String}{cs:Array Value}{w w':World}(h:w.var? Tryz.prog n=some cs)(g:Grew w w'): w'.var? Tryz.prog n=some cs:=by
 cases hg:Tryz.prog.globalNamed n with
 | none=>unfold World.var? at h;simp[hg] at h
 |some i =>
  by_cases hi:i<w.heap.size
  ·exact var?_below g.below hg hi h
  ·unfold World.var? at h;have:w.heap[i]? = none:=Array.getElem?_eq_none (by omega);simp[hg,this] at h
theorem Pow.grew{w w':World}(h:Pow w)(g:Grew w w'): Pow w':=var_grew h g
theorem laidOutC:laidOutB Tryz.prog=true:=by kernel_rfl
theorem cell_law:Maps.Keyed Tryz.prog 268:=Maps.Keyed.of_law (deep_law_laid laidOutC (m:=3) (by decide) (of_decide_eq_true (by kernel_rfl)) (by kernel_rfl) (by kernel_rfl))
def ceK(n k:Int): Value:=.agg #[.int .i64 n,.int .i64 k]
theorem ceK_inj{n k n' k':Int}(h:ceK n k=ceK n' k'): n=n'∧k=k':=by
 unfold ceK at h;simp at h;exact h
theorem keyTypeC:Tryz.prog.keyType 268=true:=by kernel_rfl
theorem cellsC:Tryz.prog.cellsOf 268=2:=by kernel_rfl
theorem cellsCI:Tryz.prog.cellsOf 3=1:=by kernel_rfl
theorem sizeC:Tryz.prog.types.size≠0:=of_decide_eq_true (by kernel_rfl)
theorem keyC(n k:Int)(h1 : -9223372036854775808≤n∧n≤9223372036854775807)(h2 : -9223372036854775808≤k∧k≤9223372036854775807): ∃kl,keyOf Tryz.prog 268 (ceK n k)=some kl:=by
 have w1:=WalkArith.wf_i64 h1;have w2:=WalkArith.wf_i64 h2;unfold ceK keyOf;obtain⟨m,hm⟩:=Nat.exists_eq_succ_of_ne_zero sizeC;simp only[Tryz.underlying268,keyTypeC,hm];simp[Value.formed,Tryz.underlying268,cellsC,Program.keyLits,Value.cells,Tryz.underlying3,cellsCI,w1,w2]
def cev(x y:Val): Value:=.agg #[.int .i64 x.1,.int .i64 x.2,.int .i64 y.1,.int .i64 y.2]
def ceDat(x y:Val): DataW Unit:=.agg [.lit (.int .i64 x.1),.lit (.int .i64 x.2),.lit (.int .i64 y.1),.lit (.int .i64 y.2)]
def ceL:List Value→Option (DataW Unit×List MemPlace)
 | [.int .i64 a,.int .i64 b,.int .i64 c,.int .i64 d]=>some (.agg [.lit (.int .i64 a),.lit (.int .i64 b),.lit (.int .i64 c),.lit (.int .i64 d)],[])
 | _=>none
def ceR:Value→Option (DataW Unit×List MemPlace)
 | .agg c=>ceL c.toList
 | _=>none
theorem ceR_mk(x y:Val): ceR (cev x y)=some (ceDat x y,[]):=rfl
theorem ceR_inv{v:Value}{d:DataW Unit×List MemPlace}(h:ceR v=some d): ∃c:Val×Val,v=cev c.1 c.2∧d=(ceDat c.1 c.2,[]):=by
 cases v with
 |agg c =>
  obtain⟨c⟩:=c;have h2:ceL c=some d:=h;unfold ceL at h2;split at h2
  ·rename_i a b p q
   exact⟨((a,b),(p,q)),rfl,(Option.some.inj h2).symm⟩
  ·cases h2
 | _=>cases h
theorem ceDat_inj{x y p q:Val}(h:ceDat x y=ceDat p q): x=p∧y=q:=by
 obtain⟨a,b⟩:=x;obtain⟨c,d⟩:=y;obtain⟨e,f⟩:=p;obtain⟨g,i⟩:=q;unfold ceDat at h;simp at h;obtain⟨rfl,rfl,rfl,rfl⟩:=h;exact⟨rfl,rfl⟩
def There(x:Tab.En): Prop:=(0≤x.node∧x.node<8)∧(0≤x.key∧x.key<64)
theorem There.inj{x y:Tab.En}(hx:There x)(hy:There y): Tab.num x=Tab.num y↔x.node=y.node∧x.key=y.key :=
 ⟨Tab.num_inj hx.2 hy.2,fun⟨h1,h2⟩=>by unfold Tab.num;rw[h1,h2]⟩
theorem There.kl{x:Tab.En}(h:There x): ∃kl,keyOf Tryz.prog 268 (ceK x.node x.key)=some kl:=keyC _ _ (by have:=h.1;omega) (by have:=h.2;omega)
structure TabD (D:DataW Unit) (m:List Tab.En):Prop where
 im:Maps.IsMap D
 has:∀kl,Maps.has D kl=true→∃x∈m,keyOf Tryz.prog 268 (ceK x.node x.key)=some kl
 at':∀x∈m,∀kl,keyOf Tryz.prog 268 (ceK x.node x.key)=some kl→Maps.has D kl=true∧∀zd,D.atKey kl zd=ceDat x.c0 x.c1
 there:∀x∈m,There x
 un:m.Pairwise fun a b=>Tab.num a≠Tab.num b
def TabAt(W:World)(b n:Nat)(m:List Tab.En): Prop:=∃D:DataW Unit,W.ownsMap Tryz.prog 268 ceR b n D∧TabD D m
theorem TabAt.made(W:World): TabAt (W.alloc (.map #[] 0)) W.heap.size 0 [] :=
 ⟨_,World.ownsMap_made _ _ _ _,⟨_,rfl⟩,fun kl h=>by simp[Maps.has] at h,fun p hp=>(by cases hp),fun p hp=>(by cases hp),List.Pairwise.nil⟩
theorem TabAt.same{W W':World}{b n:Nat}{m:List Tab.En}(h:TabAt W b n m)(hb:W'.heap[b]? = W.heap[b]?): TabAt W' b n m:=by
 obtain⟨D,⟨es,c,h1,h2⟩,h3⟩:=h;exact⟨D,⟨es,c,by rw[hb];exact h1,h2⟩,h3⟩
theorem TabAt.lt{W:World}{b n:Nat}{m:List Tab.En}(h:TabAt W b n m): b<W.heap.size:=by
 obtain⟨D,ho,_⟩:=h;exact ho.lt
theorem TabAt.grew{W W':World}{b n:Nat}{m:List Tab.En}(h:TabAt W b n m)(g:Grew W W'): TabAt W' b n m:=h.same (g.below.block b h.lt)
theorem TabAt.more{W:World}{b n n':Nat}{m:List Tab.En}(h:TabAt W b n m)(hn:n≤n'): TabAt W b n' m:=by
 obtain⟨D,ho,h2⟩:=h;exact⟨D,ho.mono hn,h2⟩
theorem key_other{x y:Tab.En}(hx:There x)(hy:There y){kx ky:Lit}(h1:keyOf Tryz.prog 268 (ceK x.node x.key)=some kx)(h2:keyOf Tryz.prog 268 (ceK y.node y.key)=some ky): kx=ky↔Tab.num x=Tab.num y:=by
 constructor
 ·intro e;exact(hx.inj hy).2 (ceK_inj (cell_law.inj (e▸h1) h2))
 ·intro e;obtain⟨e1,e2⟩:=(hx.inj hy).1 e;rw[e1,e2,h2] at h1;exact(Option.some.inj h1).symm
theorem TabD.put{D:DataW Unit}{m:List Tab.En}(h:TabD D m)(x:Tab.En)(hx:There x){kl:Lit}(hk:keyOf Tryz.prog 268 (ceK x.node x.key)=some kl): TabD (D.put kl (ceDat x.c0 x.c1)) (x::m.filter fun y=>Tab.num y != Tab.num x):=by
 have hf:∀y∈m.filter (fun y=>Tab.num y != Tab.num x),y∈m∧Tab.num y≠Tab.num x:=fun y hy=>by
  obtain⟨h1,h2⟩:=List.mem_filter.1 hy;exact⟨h1,by simpa using h2⟩
 refine⟨h.im.put _ _,fun k2 hh=>?_,fun y hy k2 hk2=>?_,fun y hy=>?_,List.pairwise_cons.2 ⟨fun y hy e=>(hf y hy).2 e.symm,h.un.filter _⟩⟩
 ·by_cases e:k2=kl
  ·exact⟨x,List.mem_cons_self ..,by rw[e];exact hk⟩
  ·rw[Maps.has_put_other e] at hh;obtain⟨y,hy,hyk⟩:=h.has k2 hh;refine⟨y,List.mem_cons_of_mem _ (List.mem_filter.2 ⟨hy,?_⟩),hyk⟩;rw[bne_iff_ne];exact fun e2=>e ((key_other (h.there y hy) hx hyk hk).2 e2)
 ·rcases List.mem_cons.1 hy with rfl|hy
  ·rw[hk] at hk2;cases hk2;exact⟨Maps.has_put_same h.im (cell_law.key hk) _,fun zd=>Maps.atKey_put_same h.im (cell_law.key hk) _ _⟩
  ·obtain⟨h1,h2⟩:=hf y hy;have hne:k2≠kl:=fun e=>h2 ((key_other (h.there y h1) hx hk2 hk).1 e)
   rw[Maps.has_put_other hne];exact⟨(h.at' y h1 k2 hk2).1,fun zd=>by rw[Maps.atKey_put_other hne];exact(h.at' y h1 k2 hk2).2 zd⟩
 ·rcases List.mem_cons.1 hy with rfl|hy
  ·exact hx
  ·exact h.there y (hf y hy).1
theorem TabD.del{D:DataW Unit}{m:List Tab.En}(h:TabD D m)(x:Tab.En)(hx:There x){kl:Lit}(hk:keyOf Tryz.prog 268 (ceK x.node x.key)=some kl): TabD (D.del kl) (m.filter fun y=>Tab.num y != Tab.num x):=by
 have hf:∀y∈m.filter (fun y=>Tab.num y != Tab.num x),y∈m∧Tab.num y≠Tab.num x:=fun y hy=>by
  obtain⟨h1,h2⟩:=List.mem_filter.1 hy;exact⟨h1,by simpa using h2⟩
 refine⟨h.im.del _,fun k2 hh=>?_,fun y hy k2 hk2=>?_,fun y hy=>h.there y (hf y hy).1,h.un.filter _⟩
 ·by_cases e:k2=kl
  ·rw[e,Maps.has_del_same] at hh;cases hh
  ·rw[Maps.has_del_other e] at hh;obtain⟨y,hy,hyk⟩:=h.has k2 hh;refine⟨y,List.mem_filter.2 ⟨hy,?_⟩,hyk⟩;rw[bne_iff_ne];exact fun e2=>e ((key_other (h.there y hy) hx hyk hk).2 e2)
 ·obtain⟨h1,h2⟩:=hf y hy;have hne:k2≠kl:=fun e=>h2 ((key_other (h.there y h1) hx hk2 hk).1 e)
  rw[Maps.has_del_other hne];exact⟨(h.at' y h1 k2 hk2).1,fun zd=>by rw[Maps.atKey_del_other hne];exact(h.at' y h1 k2 hk2).2 zd⟩
theorem keep_turned{W W':World}{b:Nat}(h:W.mapTurned W' b): Keep b W W':=⟨h.grown.size,fun q hq hne=>h.grown.block q hq fun e=>hne (Option.some.inj e)⟩
theorem grew_turned{w0 W W':World}{b:Nat}(g:Grew w0 W)(hb:w0.heap.size≤b)(h:W.mapTurned W' b): Grew w0 W':=g.grown h.grown fun q hq=>by cases hq;exact hb
theorem TabAt.put{W:World}{b n:Nat}{m:List Tab.En}(h:TabAt W b n m)(hn:n<maxLen)(x:Tab.En)(hx:There x):
  ∃W',(Instr.mapUpdate 292 (.map (some b)) (ceK x.node x.key) (cev x.c0 x.c1)).run Tryz.prog W = .ok () W'∧TabAt W' b (n+1) (x::m.filter fun y=>Tab.num y != Tab.num x)∧W.mapTurned W' b:=by
 obtain⟨D,ho,hD⟩:=h;obtain⟨kl,hk⟩:=hx.kl;obtain⟨W',hr,ho',hg⟩:=World.ownsMap.store ho cell_law Tryz.underlying292 hn hk (ceR_mk x.c0 x.c1);exact⟨W',hr,⟨_,ho',hD.put x hx hk⟩,hg⟩
theorem TabAt.del{W:World}{b n:Nat}{m:List Tab.En}(h:TabAt W b n m)(x:Tab.En)(hx:There x)(ty:TypeId):
  ∃W',(Builtin.delete_ #[292,268] ty #[.map (some b),ceK x.node x.key]).run Tryz.prog W = .ok (.tuple #[]) W'∧TabAt W' b n (m.filter fun y=>Tab.num y != Tab.num x)∧W.mapTurned W' b:=by
 obtain⟨D,ho,hD⟩:=h;obtain⟨kl,hk⟩:=hx.kl;obtain⟨W',hr,ho',hg⟩:=World.ownsMap.drop ho cell_law Tryz.underlying292 hk ty;exact⟨W',hr,⟨_,ho',hD.del x hx hk⟩,hg⟩
theorem wpList_tabPut{w0 W:World}{ops:Array Oper}{rest:List Oper}{o:Oper}{a:Act}{Q:Exit→Act→World→Prop}{b n:Nat}{M:List Tab.En}
  (hg:o.guard=none) (m k v:Operand) (hop:o.op=Op.mapUpdate 292 m k v) (hgr:Grew w0 W) (hb:w0.heap.size≤b)
  (hm:a.eval m = .map (some b)) (h:TabAt W b n M) (hn:n<maxLen) (x:Tab.En) (hx:There x) (hk:a.eval k=ceK x.node x.key) (hv:a.eval v=cev x.c0 x.c1)
  (hK:∀W',TabAt W' b (n+1) (x::M.filter fun y=>Tab.num y != Tab.num x)→Grew w0 W'→Keep b W W'→wpList Tryz.prog ops Q rest (a.put o.dst undef) W'):wpList Tryz.prog ops Q (o::rest) a W:=by
 refine wpList_plain hg fun K' hK'=>?_
 obtain⟨W',hrun,r1,r2⟩:=h.put hn x hx;unfold Oper.wp;simp[execOp,hop,hm,hk,hv,hrun,Result.andThen];exact hK' _ _ (hK W' r1 (grew_turned hgr hb r2) (keep_turned r2))
theorem wpList_tabDel{w0 W:World}{ops:Array Oper}{rest:List Oper}{o:Oper}{a:Act}{Q:Exit→Act→World→Prop}{b n:Nat}{M:List Tab.En}
  (hg:o.guard=none) (m k:Operand) (hop:o.op=Op.call { callee:=Callee.builtin Builtin.delete,args:=#[m,k],argTypes:=#[292,268] }) (hgr:Grew w0 W) (hb:w0.heap.size≤b)
  (hm:a.eval m = .map (some b)) (h:TabAt W b n M) (x:Tab.En) (hx:There x) (hk:a.eval k=ceK x.node x.key)
  (hK:∀W',TabAt W' b n (M.filter fun y=>Tab.num y != Tab.num x)→Grew w0 W'→Keep b W W'→wpList Tryz.prog ops Q rest (a.put o.dst (.tuple #[])) W'):wpList Tryz.prog ops Q (o::rest) a W:=by
 refine wpList_plain hg fun K' hK'=>?_
 obtain⟨W',hrun,r1,r2⟩:=h.del x hx o.type;unfold Oper.wp;simp[execOp,hop,resolve,invoke,builtin,hm,hk,hrun,Result.andThen];exact hK' _ _ (hK W' r1 (grew_turned hgr hb r2) (keep_turned r2))
def thereB(n k:Int): Bool:=decide (0≤n)&&decide (n<8)&&decide (0≤k)&&decide (k<64)
theorem thereB_iff{x:Tab.En}: thereB x.node x.key=true↔There x:=by
 unfold thereB There;simp only[Bool.and_eq_true,decide_eq_true_eq,and_assoc]
theorem there_any(n k:Int)(w:World): Calls Tryz.prog 231 #[.int .i64 n,.int .i64 k] w fun e w'=>e = .returned (.bool (thereB n k))∧w=w':=by
 by_cases h1:0≤n
 ·by_cases h2:n<8
  ·by_cases h3:0≤k
   ·have hb:thereB n k=decide (k<64):=by unfold thereB;simp[h1,h2,h3]
    rw[hb];clear hb;go_enter Tryz.func231,Tryz.ntmps231;go_wp2;go_ret;exact⟨rfl,rfl⟩
   ·have hb:thereB n k=false:=by unfold thereB;simp[h3]
    rw[hb];clear hb;go_enter Tryz.func231,Tryz.ntmps231;go_wp2;go_ret;exact⟨rfl,rfl⟩
  ·have hb:thereB n k=false:=by unfold thereB;simp[h2]
   rw[hb];clear hb;go_enter Tryz.func231,Tryz.ntmps231;go_wp2;go_ret;exact⟨rfl,rfl⟩
 ·have hb:thereB n k=false:=by unfold thereB;simp[h1]
  rw[hb];clear hb;go_enter Tryz.func231,Tryz.ntmps231;go_wp2;go_ret;exact⟨rfl,rfl⟩
def TableAt(W:World)(t b n:Nat)(m:List Tab.En): Prop:=W.heap[t]? = some (.cells #[.map (some b)] 294)∧TabAt W b n m
theorem TableAt.ne{W:World}{t b n:Nat}{m:List Tab.En}(h:TableAt W t b n m): t≠b:=fun e=>by
 obtain⟨h1,D,⟨es,c,h2,-⟩,-⟩:=h;rw[e,h2] at h1;cases h1
theorem TableAt.grew{W W':World}{t b n:Nat}{m:List Tab.En}(h:TableAt W t b n m)(g:Grew W W'): TableAt W' t b n m:=⟨grew_heap g h.1,h.2.grew g⟩
theorem TableAt.more{W:World}{t b n n':Nat}{m:List Tab.En}(h:TableAt W t b n m)(hn:n≤n'): TableAt W t b n' m:=⟨h.1,h.2.more hn⟩
def okEn(x:Tab.En): Bool:=thereB x.node x.key&&(rightV x.c0&&rightV x.c1)
def setR(m:List Tab.En)(x:Tab.En): Int×List Tab.En:=if okEn x then (0,Tab.setT m x) else (1,m)
def SetPost(w0 W:World)(t b n:Nat)(r:Int×List Tab.En)(e:Ending)(W':World): Prop:=e = .returned (.int .i64 r.1)∧TableAt W' t b (n+1) r.2∧Grew w0 W'∧Keep b W W'
theorem infoCV:(Tryz.prog.info? 112).map (fun i=>(i.zero,i.size,i.bytes))=some (some (.agg #[.int .i64 0,.int .i64 0]),2,16):=by kernel_rfl
theorem right_xy(x y:Int)(w:World): Calls Tryz.prog 185 #[.agg #[.int .i64 x,.int .i64 y]] w (Gives (.bool (rightV (x,y))) w):=right_any (x,y) w
theorem cellsCV:Tryz.prog.cellsOf 112=2:=by kernel_rfl
theorem run_eql_ce(a b c d:Int)(w:World): (binOp .eql 113 (.agg #[.int .i64 a,.int .i64 b,.int .i64 c,.int .i64 d]) (.agg #[.int .i64 0,.int .i64 0,.int .i64 0,.int .i64 0])).run Tryz.prog w = .ok (.bool (((a,b):Val)==(0,0)&&((c,d):Val)==(0,0))) w:=by
 have h:(Op.equalIn 10000 113 (.agg #[.int .i64 a,.int .i64 b,.int .i64 c,.int .i64 d]) (.agg #[.int .i64 0,.int .i64 0,.int .i64 0,.int .i64 0])).run Tryz.prog w = .ok (((a,b):Val)==(0,0)&&((c,d):Val)==(0,0)) w:=by
  obtain⟨i,hi,_⟩:=info_parts infoCV;have h0:=run_equalIn_array (P:=Tryz.prog) (w:=w) 9999 #[.int .i64 a,.int .i64 b,.int .i64 c,.int .i64 d] #[.int .i64 0,.int .i64 0,.int .i64 0,.int .i64 0] Tryz.underlying113 hi;rw[h0,show List.range 2=[0,1] from rfl,cellsCV];simp[Op.eqItems,go_sem,Tryz.underlying112,Tryz.underlying3];by_cases h1:a=0<;>by_cases h2:b=0<;>by_cases h3:c=0<;>by_cases h4:d=0<;>simp[h1,h2,h3,h4]
 simp[go_sem,h]
theorem tabSet_any(w0 W:World)(t b n:Nat)(m:List Tab.En)(x:Tab.En)(hT:TableAt W t b n m)(hg:Grew w0 W)(hb:w0.heap.size≤b)(hn:n<maxLen):
  Calls Tryz.prog 213 #[.pointer (some ⟨t,0,none⟩),.int .i64 x.node,.int .i64 x.key,cev x.c0 x.c1] W (SetPost w0 W t b n (setR m x)):=by
 obtain⟨nd,ky,⟨p0,q0⟩,⟨p1,q1⟩⟩:=x;have HT:=hY hT;have HG:=hY hg;have HN:=hY hn;have hth:=hY (thereB_iff (x:=⟨nd,ky,(p0,q0),(p1,q1)⟩));obtain⟨r,hr⟩:∃r,setR m ⟨nd,ky,(p0,q0),(p1,q1)⟩=r:=⟨_,rfl⟩;rw[hr];have HR:=hY hr;have tc:=cell_of (o:=0) hT.1;simp at tc;have pt:=Pre.mk (heap_lt hT.1);have HNE:=hY hT.ne;clear hT hg hn hr;show Calls Tryz.prog 213 #[.pointer (some ⟨t,0,none⟩),.int .i64 nd,.int .i64 ky,.agg #[.int .i64 p0,.int .i64 q0,.int .i64 p1,.int .i64 q1]] W _;cases h1:thereB nd ky
 case false =>
  have H1:=hY h1;have hrr:r=(1,m):=by rw[←HR.o];unfold setR okEn;rw[show thereB nd ky=false from h1];rfl
  subst hrr;clear h1;go_enter Tryz.func213,Tryz.ntmps213
  go_wp2_with (go_at_call 231;refine(there_any _ _ _).mono ?_;rintro e w1 ⟨rfl,rfl⟩;rw[H1.o])
  go_ret;exact⟨rfl,(HT.o.grew gw).more (Nat.le_succ _),HG.o.trans gw,Keep.ofGrew gw⟩
 cases h2:rightV (p0,q0)
 case false =>
  have H1:=hY h1;have H2:=hY h2;have hrr:r=(1,m):=by rw[←HR.o];unfold setR okEn;rw[show rightV (p0,q0)=false from h2];simp
  subst hrr;clear h1 h2;go_enter Tryz.func213,Tryz.ntmps213
  go_wp2_with (first
   | (go_at_call 231;refine(there_any _ _ _).mono ?_;rintro e w1 ⟨rfl,rfl⟩;rw[H1.o])
   | (go_at_call 185;refine(right_xy _ _ _).mono ?_;rintro e w1 ⟨rfl,R1,n1,rfl⟩;rw[H2.o]))
  go_ret;exact⟨rfl,(HT.o.grew gw).more (Nat.le_succ _),HG.o.trans gw,Keep.ofGrew gw⟩
 cases h3:rightV (p1,q1)
 case false =>
  have H1:=hY h1;have H2:=hY h2;have H3:=hY h3;have hrr:r=(1,m):=by rw[←HR.o];unfold setR okEn;rw[show rightV (p1,q1)=false from h3];simp
  subst hrr;clear h1 h2 h3;go_enter Tryz.func213,Tryz.ntmps213
  go_wp2_with (first
   | (go_at_call 231;refine(there_any _ _ _).mono ?_;rintro e w1 ⟨rfl,rfl⟩;rw[H1.o])
   | (go_at_call_of 185 (Value.agg #[.int .i64 p0,.int .i64 q0]);refine(right_xy _ _ _).mono ?_;rintro e w1 ⟨rfl,R1,n1,rfl⟩;rw[H2.o])
   | (go_at_call 185;refine(right_xy _ _ _).mono ?_;rintro e w1 ⟨rfl,R2,n2,rfl⟩;rw[H3.o]))
  go_ret;exact⟨rfl,(HT.o.grew gw).more (Nat.le_succ _),HG.o.trans gw,Keep.ofGrew gw⟩
 have H1:=hY h1;have H2:=hY h2;have H3:=hY h3;have hx:There ⟨nd,ky,(p0,q0),(p1,q1)⟩:=hth.out.1 h1;have HX:=hY hx;have hrr:r=(0,Tab.setT m ⟨nd,ky,(p0,q0),(p1,q1)⟩):=by rw[←HR.o];unfold setR okEn;rw[show thereB nd ky=true from h1,show rightV (p0,q0)=true from h2,show rightV (p1,q1)=true from h3];rfl
 subst hrr;clear h1 h2 h3 hx;cases hz:(((p0,q0):Val)==(0,0)&&((p1,q1):Val)==(0,0))
 ·have heq:=fun W=>run_eql_ce p0 q0 p1 q1 W
  rw[hz] at heq;have hst:Tab.setT m ⟨nd,ky,(p0,q0),(p1,q1)⟩=⟨nd,ky,(p0,q0),(p1,q1)⟩::m.filter fun y=>Tab.num y != Tab.num ⟨nd,ky,(p0,q0),(p1,q1)⟩:=by unfold Tab.setT Tab.nz;rw[hz];rfl
  have HST:=hY hst;clear hz hst;go_enter Tryz.func213,Tryz.ntmps213
  go_upto_region 1 with (first
   | (go_at_call 231;refine(there_any _ _ _).mono ?_;rintro e w1 ⟨rfl,rfl⟩;rw[H1.o])
   | (go_at_call_of 185 (Value.agg #[.int .i64 p0,.int .i64 q0]);refine(right_xy _ _ _).mono ?_;rintro e w1 ⟨rfl,R1,n1,rfl⟩;rw[H2.o])
   | (go_at_call 185;refine(right_xy _ _ _).mono ?_;rintro e w1 ⟨rfl,R2,n2,rfl⟩;rw[H3.o]))
  refine wp_region_seq 8 Tryz.mixed (by kernel_rfl) (by kernel_rfl) ?_
  iterate 8
   apply Seq.val
   focus
    rintro w1 u ⟨R1,n1,rfl⟩ hF;simp[moreFacts,Fact.more,Oper.deps,Region.binds,List.filter_cons,World.more_drew] at hF;simp[putFacts,Oper.deps,Region.binds,List.filter_cons,Region.dstOf,Fact.at,Act.put,World.more_drew];go_wp2;exact⟨gw,rfl,_,_,rfl,rfl,rfl⟩
  rintro u w1 ⟨R1,n1,rfl⟩ hF;clear hF;simp[putFacts,Region.dstOf,Fact.at,Act.put,List.range_succ,World.more_drew];refine wpList_tabPut (w0:=w0) rfl (.tmp 12) (.tmp 15) (.tmp 16) rfl (HG.o.trans gw) hb rfl (HT.o.2.grew gw) HN.o ⟨nd,ky,(p0,q0),(p1,q1)⟩ HX.o rfl rfl ?_;intro W5 h5 g5 k5;have H5:=hY h5;have G5:=hY g5;have K5:=hY k5;clear h5 g5 k5;go_wp2;go_ret;exact⟨rfl,⟨by rw[K5.out.2 t (by have:=heap_lt HT.o.1;simp[go_sem];omega) HNE.o];exact(HT.o.grew gw).1,by rw[HST.o];exact H5.o⟩,G5.out,(Keep.ofGrew gw).trans K5.out⟩
 ·have heq:=fun W=>run_eql_ce p0 q0 p1 q1 W
  rw[hz] at heq;have hst:Tab.setT m ⟨nd,ky,(p0,q0),(p1,q1)⟩=m.filter fun y=>Tab.num y != Tab.num ⟨nd,ky,(p0,q0),(p1,q1)⟩:=by unfold Tab.setT Tab.nz;rw[hz];rfl
  have HST:=hY hst;clear hz hst;go_enter Tryz.func213,Tryz.ntmps213
  go_wp2_with (first
   | (go_at_call 231;refine(there_any _ _ _).mono ?_;rintro e w1 ⟨rfl,rfl⟩;rw[H1.o])
   | (go_at_call_of 185 (Value.agg #[.int .i64 p0,.int .i64 q0]);refine(right_xy _ _ _).mono ?_;rintro e w1 ⟨rfl,R1,n1,rfl⟩;rw[H2.o])
   | (go_at_call 185;refine(right_xy _ _ _).mono ?_;rintro e w1 ⟨rfl,R2,n2,rfl⟩;rw[H3.o])
   | (refine wpList_tabDel (w0:=w0) rfl (.tmp 45) (.tmp 48) rfl (HG.o.trans gw) hb rfl (HT.o.2.grew gw) ⟨nd,ky,(p0,q0),(p1,q1)⟩ HX.o rfl ?_;intro W5 h5 g5 k5;(have H5:=hY h5);(have G5:=hY g5);(have K5:=hY k5);clear h5 g5 k5))
  go_ret;exact⟨rfl,⟨by rw[K5.out.2 t (by have:=heap_lt HT.o.1;simp[go_sem];omega) HNE.o];exact(HT.o.grew gw).1,by rw[HST.o];exact H5.o.more (Nat.le_succ _)⟩,G5.out,(Keep.ofGrew gw).trans K5.out⟩
def encEn(x:Tab.En): List Value:=[.int .i64 x.node,.int .i64 x.key,.int .i64 x.c0.1,.int .i64 x.c0.2,.int .i64 x.c1.1,.int .i64 x.c1.2]
theorem encEn_len(x:Tab.En): (encEn x).length=6:=rfl
theorem encEn_one(x:Tab.En): ∀u∈encEn x,u.oneCell'=true:=by
 intro u hu;simp[encEn] at hu;rcases hu with rfl|rfl|rfl|rfl|rfl|rfl<;>rfl
abbrev EntsAt(w:World)(v:Value)(l:List Tab.En): Prop:=RowsAt 6 encEn w v l
theorem EntsAt.open6{w:World}{v:Value}{l:List Tab.En}(h:EntsAt w v l): ∃a cap,v = .slice a l.length cap∧l.length≤9223372036854775807∧∀i (hi:i<l.length),∃b off,a=some ⟨b,off,none⟩∧Pre b w ∧
  w.cell? ⟨b,off+i*6,none⟩=some (.int .i64 l[i].node)∧w.cell? ⟨b,off+i*6+1,none⟩=some (.int .i64 l[i].key)∧w.cell? ⟨b,off+i*6+2,none⟩=some (.int .i64 l[i].c0.1)∧w.cell? ⟨b,off+i*6+3,none⟩=some (.int .i64 l[i].c0.2)∧w.cell? ⟨b,off+i*6+4,none⟩=some (.int .i64 l[i].c1.1)∧w.cell? ⟨b,off+i*6+5,none⟩=some (.int .i64 l[i].c1.2):=by
 obtain⟨a,cap,rfl,hm,hx⟩:=h;refine⟨a,cap,rfl,by unfold maxLen at hm;omega,fun i hi=>?_⟩;obtain⟨b,off,rfl,hc⟩:=hx (by intro e;subst e;simp at hi);have hj:=fun j u=>hc i l[i] (List.getElem?_eq_getElem hi) j u
 have h0:=hj 0 _ rfl;exact⟨b,off,rfl,Pre.mk (World.block_lt_of_cell? w _ h0),h0,hj 1 _ rfl,hj 2 _ rfl,hj 3 _ rfl,hj 4 _ rfl,hj 5 _ rfl⟩
theorem tabSet_c(w0 W:World)(t b n:Nat)(m:List Tab.En)(nd ky p0 q0 p1 q1:Int)(hT:TableAt W t b n m)(hg:Grew w0 W)(hb:w0.heap.size≤b)(hn:n<maxLen):
  Calls Tryz.prog 213 #[.pointer (some ⟨t,0,none⟩),.int .i64 nd,.int .i64 ky,.agg #[.int .i64 p0,.int .i64 q0,.int .i64 p1,.int .i64 q1]] W (SetPost w0 W t b n (setR m ⟨nd,ky,(p0,q0),(p1,q1)⟩)):=tabSet_any w0 W t b n m ⟨nd,ky,(p0,q0),(p1,q1)⟩ hT hg hb hn
def newOk(l:List Tab.En): Bool:=l.all okEn
theorem newOk_false{l:List Tab.En}{k:Nat}(hk:k<l.length)(h:okEn l[k]=false): newOk l=false:=by
 unfold newOk;rw[List.all_eq_false];exact⟨_,List.getElem_mem hk,by rw[h];simp⟩
theorem newT_succ{l:List Tab.En}{k:Nat}(hk:k<l.length): Tab.newT (l.take (k+1))=Tab.setT (Tab.newT (l.take k)) l[k]:=by
 rw[List.take_succ_eq_append_getElem hk,Tab.newT_snoc]
def NewPost(l:List Tab.En)(w:World)(e:Ending)(w':World): Prop :=
 (newOk l=true∧∃t b,e = .returned (.tuple #[.pointer (some ⟨t,0,none⟩),.int .i64 0])∧TableAt w' t b l.length (Tab.newT l)∧w.heap.size≤t∧w.heap.size≤b∧Grew w w') ∨
 (newOk l=false∧e = .returned (.tuple #[.pointer none,.int .i64 1])∧Grew w w')
theorem tabNew_any(v:Value)(l:List Tab.En)(w:World)(hv:EntsAt w v l)(hl:l.length≤100000): Calls Tryz.prog 186 #[v] w (NewPost l w):=by
 have HV:=hY hv;obtain⟨a,cap,rfl,hm,-⟩:=EntsAt.open6 hv;have hmm:=@run_makeMap Tryz.prog;clear hv;go_enter Tryz.func186,Tryz.ntmps186;go_wp2;have HT0:Hid (TableAt ((w.alloc (.map #[] 0)).alloc (.cells #[.map (some w.heap.size)] 294)) (w.heap.size+1) w.heap.size 0 []):=hY ⟨heap_new_at _ _ _ (by simp[World.size_alloc]),(TabAt.made w).grew gw⟩;clear hmm
 go_loopg [13] l.length (fun gg s13 wr=>∃k:Nat,k≤l.length∧l.length-k≤gg∧s13 = .int .i64 k∧Hid (TableAt wr (w.heap.size+1) w.heap.size k (Tab.newT (l.take k)))∧Hid (Grew w wr)∧Hid (∀i (h:i<l.length),i<k→okEn l[i]=true))
 case atStart=>exact⟨0,by omega,by omega,rfl,HT0,hY gw,hY fun i _ h=>by omega⟩
 case round =>
  obtain⟨k,hk,hgg,rfl,HT,HG,HOK⟩:=hrel;by_cases hlt:k<l.length
  ·obtain⟨a',cap',e,-,hx⟩:=EntsAt.open6 (HV.o.grew HG.o);cases e;obtain⟨b,off,rfl,hb,c0,c1,c2,c3,c4,c5⟩:=hx k hlt;have HNS:=hY (newT_succ hlt);have HNF:=hY fun h=>newOk_false hlt h
   have HKX:Hid (okEn l[k]=true→∀i (hi:i<l.length),i<k+1→okEn l[i]=true):=hY fun h i hi h2=>(Nat.lt_or_ge i k).elim (HOK.o i hi) fun h3=>by
    obtain rfl:i=k:=by omega
    exact h
   clear hx;generalize l[k]=x at *;obtain⟨nd,ky,⟨p0,q0⟩,⟨p1,q1⟩⟩:=x;simp only at c0 c1 c2 c3 c4 c5;have HS:=hY fun W (g:Grew wr W)=>tabSet_c w W (w.heap.size+1) w.heap.size k _ nd ky p0 q0 p1 q1 (HT.o.grew g) (HG.o.trans g) (Nat.le_refl _) (by unfold maxLen;omega)
   cases hok:okEn ⟨nd,ky,(p0,q0),(p1,q1)⟩
   ·have hr:setR (Tab.newT (l.take k)) ⟨nd,ky,(p0,q0),(p1,q1)⟩=(1,Tab.newT (l.take k)):=by unfold setR;rw[hok];rfl
    rw[hr] at HS;have HNF2:=hY (HNF.o hok);clear hok hr
    go_wp2_with (go_at_call 213;refine(HS.o _ gw).mono ?_;rintro e w1 ⟨rfl,h1,hg1,hk1⟩;(have HG1:=hY hg1);clear h1 hg1 hk1;simp only)
    go_ret2;exact .inr ⟨HNF2.o,rfl,HG1.o⟩
   ·have hr:setR (Tab.newT (l.take k)) ⟨nd,ky,(p0,q0),(p1,q1)⟩=(0,Tab.setT (Tab.newT (l.take k)) ⟨nd,ky,(p0,q0),(p1,q1)⟩):=by unfold setR;rw[hok];rfl
    rw[hr] at HS;have HKX2:=hY (HKX.o hok);clear hok hr
    go_wp2_with (go_at_call 213;refine(HS.o _ gw).mono ?_;rintro e w1 ⟨rfl,h1,hg1,hk1⟩;(have HG1:=hY hg1);(have HT1:=hY h1);clear h1 hg1 hk1;simp only)
    go_roundg (l.length-(k+1))
    case measure=>omega
    case rel=>exact⟨k+1,by omega,by omega,by go_num,hY (by rw[HNS.o];exact HT1.o),HG1,HKX2⟩
  ·obtain rfl:k=l.length:=by omega
   have hT:=HT.o;rw[List.take_length] at hT;have HT9:=hY hT;clear hT;go_wp2;go_ret2;refine .inl ⟨?_,_,_,rfl,HT9.o,by omega,Nat.le_refl _,HG.o⟩;unfold newOk;rw[List.all_eq_true];intro x hx;obtain⟨i,hi,rfl⟩:=List.mem_iff_getElem.1 hx;exact HOK.o i hi hi
def PtsTo(x v:Value)(w:World): Prop:=∃b o,v = .pointer (some ⟨b,o,none⟩)∧w.cell? ⟨b,o,none⟩=some x
theorem cell_grew{w w':World}{b o:Nat}{x:Value}(h:w.cell? ⟨b,o,none⟩=some x)(g:Grew w w'): w'.cell? ⟨b,o,none⟩=some x:=by
 obtain⟨R,n,rfl⟩:=g;rw[World.cell?_more_past R n _ _ (Pre.ofCell h)];exact h
theorem PtsTo.st(x:Value): ∀v w w',PtsTo x v w→Grew w w'→PtsTo x v w':=fun _ _ _ ⟨b,o,h1,h2⟩ g=>⟨b,o,h1,cell_grew h2 g⟩
def NamesAt(v:Value)(w:World): Prop:=∃b,v = .slice (some ⟨b,0,none⟩) 18 18∧∀j,j<18→w.cell? ⟨b,j,none⟩=some (.string ⟨(Co.namesL.getD j []).toArray⟩)
theorem NamesAt.st:∀v w w',NamesAt v w→Grew w w'→NamesAt v w':=fun _ _ _ ⟨b,h1,h2⟩ g=>⟨b,h1,fun j hj=>cell_grew (h2 j hj) g⟩
theorem namesVals_at:∀j,j<18→((Co.namesL.map fun l=>Value.string ⟨l.toArray⟩).toArray)[j]? = some (.string ⟨(Co.namesL.getD j []).toArray⟩):=by
 intro j hj;have h:j<Co.namesL.length:=hj;rw[List.getD_eq_getElem?_getD,List.getElem?_eq_getElem h];simp[List.getElem?_eq_getElem h]
theorem NamesAt.fresh(w:World)(t:TypeId): NamesAt (.slice (some ⟨w.heap.size,0,none⟩) 18 18) (w.alloc (.cells (Co.namesL.map fun l=>Value.string ⟨l.toArray⟩).toArray t)) :=
 ⟨_,rfl,fun j hj=>by rw[World.cell?_alloc_at _ _ _ _ (by simp)];exact namesVals_at j hj⟩
def Asc (w : World) : Prop := Lib.TabIs Tryz.prog w "strings.asciiSpace" .u8 Lib.asciiSpaceTab
theorem Asc.grew{w w':World}(h:Asc w)(g:Grew w w'): Asc w':=var_grew h g
def encS(l:List UInt8): List Value:=[.string ⟨l.toArray⟩]
theorem infoStr:(Tryz.prog.info? 9).map (fun i=>(i.zero,i.size,i.bytes))=some (some (.string ByteArray.empty),1,16):=by kernel_rfl
theorem encS_len(l:List UInt8): (encS l).length=1:=rfl
theorem encS_one(l:List UInt8): ∀u∈encS l,u.oneCell'=true:=by intro u hu;simp[encS] at hu;subst hu;rfl
theorem flatMap_encS(l:List (List UInt8)): l.flatMap encS=l.map fun x=>Value.string ⟨x.toArray⟩:=by
 induction l with
 | nil=>rfl
 | cons x l ih=>rw[List.flatMap_cons,ih];rfl
theorem join_any(v:Value)(xs:List (List UInt8))(sep:List UInt8)(base:Nat)(w:World)(h:OwnAt base 9 1 encS w v xs)(hn:xs.length≤1000)(hlen:(Lib.join xs sep).length≤1000000):
  Calls Tryz.prog 181 #[v,.string ⟨sep.toArray⟩] w (Gives (str (Lib.join xs sep)) w):=by
 rcases h.form with ⟨rfl,rfl⟩|⟨b,cap,rfl,hb,hc,hm⟩
 ·refine(Tryz.strings_Join_none none 0 _ w).mono ?_;rintro e w' ⟨rfl,rfl⟩;exact⟨rfl,Grew.refl _⟩
 ·have hr:=h.rows encS_len
  have e1:(xs.map fun l=>(⟨l.toArray⟩:ByteArray)).map (·.data.toList)=xs:=by
   rw[List.map_map];simp[Function.comp_def]
  by_cases hnil:xs=[]
  ·subst hnil;refine(Tryz.strings_Join_none (some ⟨b,0,none⟩) cap _ w).mono ?_;rintro e w' ⟨rfl,rfl⟩;exact⟨rfl,Grew.refl _⟩
  ·obtain⟨a,cap',hv,_,hx⟩:=hr;obtain⟨b',off,hab,hx⟩:=hx hnil;cases hv;cases hab
   have hcell:∀(j:Nat) x,(xs.map fun l=>(⟨l.toArray⟩:ByteArray))[j]? = some x→w.cell? ⟨b,0+j,none⟩=some (.string x):=by
    intro j x hj;rw[List.getElem?_map] at hj
    cases hq:xs[j]? with
    | none=>rw[hq] at hj;cases hj
    |some y =>
     rw[hq] at hj;cases hj;have:=hx j y hq 0 (.string ⟨y.toArray⟩) rfl;simpa using this
   have hlt:b<w.heap.size:=by
    cases xs with
    | nil=>exact absurd rfl hnil
    | cons x xs=>exact World.block_lt_of_cell? w _ (hcell 0 ⟨x.toArray⟩ rfl)
   have hJ:=Tryz.strings_Join b 0 cap (xs.map fun l=>(⟨l.toArray⟩:ByteArray)) ⟨sep.toArray⟩ w hcell hlt (by simp;omega) (by simpa using hc) (by rw[e1];show(Lib.join xs sep).length≤_;omega);rw[List.length_map,e1] at hJ;refine hJ.mono ?_;rintro e w' ⟨rfl,hb⟩;exact⟨rfl,Grew.ofBelow hb⟩
theorem arr2_eq(d:Nat)(a b c e a' b' c' e':Int)(w:World): (Op.equalIn (d+4) 113 (.agg #[.int .i64 a,.int .i64 b,.int .i64 c,.int .i64 e]) (.agg #[.int .i64 a',.int .i64 b',.int .i64 c',.int .i64 e'])).run Tryz.prog w = .ok (decide (a=a'∧b=b'∧c=c'∧e=e')) w:=by
 obtain⟨i,hi,_⟩:=info_parts infoCV;have h0:=run_equalIn_array (P:=Tryz.prog) (w:=w) (d+3) #[.int .i64 a,.int .i64 b,.int .i64 c,.int .i64 e] #[.int .i64 a',.int .i64 b',.int .i64 c',.int .i64 e'] Tryz.underlying113 hi;rw[h0,show List.range 2=[0,1] from rfl,cellsCV];simp[Op.eqItems,go_sem,Tryz.underlying112,Tryz.underlying3];by_cases h1:a=a'<;>by_cases h2:b=b'<;>by_cases h3:c=c'<;>by_cases h4:e=e'<;>simp[h1,h2,h3,h4]
theorem val_eq(d:Nat)(a b a' b':Int)(w:World): (Op.equalIn (d+4) 112 (.agg #[.int .i64 a,.int .i64 b]) (.agg #[.int .i64 a',.int .i64 b'])).run Tryz.prog w = .ok (decide (a=a'∧b=b')) w:=by
 simp[go_sem,Tryz.underlying112,Tryz.underlying3];by_cases h1:a=a'<;>by_cases h2:b=b'<;>simp[h1,h2]
theorem run_neq_Ens(nd ky p0 q0 p1 q1 nd' ky' p0' q0' p1' q1':Int)(r:Bool)(h:(!(decide (nd=nd'∧ky=ky'∧p0=p0'∧q0=q0'∧p1=p1'∧q1=q1')))=r)(w:World): (binOp .neq 115 (.agg #[.int .i64 nd,.int .i64 ky,.int .i64 p0,.int .i64 q0,.int .i64 p1,.int .i64 q1]) (.agg #[.int .i64 nd',.int .i64 ky',.int .i64 p0',.int .i64 q0',.int .i64 p1',.int .i64 q1'])).run Tryz.prog w = .ok (.bool r) w:=by
 subst h;simp[go_sem,arr2_eq,Tryz.underlying115,Tryz.underlying3];by_cases h0:nd=nd'<;>by_cases h1:ky=ky'<;>by_cases h2:p0=p0'<;>by_cases h3:q0=q0'<;>by_cases h4:p1=p1'<;>by_cases h5:q1=q1'<;>simp[h0,h1,h2,h3,h4,h5]
theorem refVal07_any(x y:Int)(w:World): Calls Tryz.prog 123 #[.agg #[.int .i64 x,.int .i64 y]] w (Gives (.bool (rightV (x,y))) w):=by
 have H:rightV (x,y)=(decide (into x=x)&&decide (into y=y)):=by
  unfold rightV;simp only[eq_comm]
 by_cases h1:into x=x<;>by_cases h2:into y=y
 all_goals
  rw[H];simp only[h1,h2,decide_true,decide_false,Bool.and_true,Bool.and_false,Bool.and_self];clear H
  try (have h1':¬x=into x:=fun e=>h1 e.symm)
  try (have h2':¬y=into y:=fun e=>h2 e.symm)
  go_enter Tryz.func123,Tryz.ntmps123;go_wp2;refine wp_region_seq 8 Tryz.mixed (by kernel_rfl) (by kernel_rfl) ?_
  iterate 8
   apply Seq.val
   focus
    rintro w1 u ⟨R1,n1,rfl⟩ -;simp[putFacts,Oper.deps,Region.binds,List.filter_cons,Region.dstOf,Fact.at,Act.put,World.more_drew]
    go_wp2_with (first
    | (go_at_call 165;refine(refOf_any _ _ _).mono ?_;rintro e w1 ⟨rfl,R1,n1,rfl⟩))
    exact⟨by repeat (first|exact Grew.refl _|apply Grew.more|apply Grew.alloc|apply Grew.drew),rfl,_,_,rfl,rfl,rfl⟩
  rintro u w1 ⟨R1,n1,rfl⟩ -;simp[putFacts,Region.dstOf,Fact.at,Act.put,List.range_succ,World.more_drew];go_wp2;go_ret;refine⟨by simp[h1,h2],?_⟩
  repeat (first|exact Grew.refl _|apply Grew.more|apply Grew.alloc|apply Grew.drew)
theorem refRight07_any(nd ky p0 q0 p1 q1:Int)(w:World): Calls Tryz.prog 62 #[.agg #[.int .i64 nd,.int .i64 ky,.int .i64 p0,.int .i64 q0,.int .i64 p1,.int .i64 q1]] w (Gives (.bool (okEn ⟨nd,ky,(p0,q0),(p1,q1)⟩)) w):=by
 obtain⟨r,hr⟩:∃r,okEn ⟨nd,ky,(p0,q0),(p1,q1)⟩=r:=⟨_,rfl⟩;rw[hr];have hr2:r=(decide (0≤nd)&&decide (nd<8)&&decide (0≤ky)&&decide (ky<64)&&(rightV (p0,q0)&&rightV (p1,q1))):=hr.symm;clear hr;have HV0:=hY fun W=>refVal07_any p0 q0 W
 have HV1:=hY fun W=>refVal07_any p1 q1 W
 generalize rightV (p0,q0)=b0 at *;generalize rightV (p1,q1)=b1 at *;by_cases h1:0≤nd
 case neg =>
  have hr3:r=false:=by rw[hr2];simp[h1]
  subst hr3;clear HV0 HV1 hr2;go_enter Tryz.func62,Tryz.ntmps62;go_wp2;go_ret;exact⟨rfl,gw⟩
 by_cases h2:nd<8
 case neg =>
  have hr3:r=false:=by rw[hr2];simp[h2]
  subst hr3;clear HV0 HV1 hr2;go_enter Tryz.func62,Tryz.ntmps62;go_wp2;go_ret;exact⟨rfl,gw⟩
 by_cases h3:0≤ky
 case neg =>
  have hr3:r=false:=by rw[hr2];simp[h3]
  subst hr3;clear HV0 HV1 hr2;go_enter Tryz.func62,Tryz.ntmps62;go_wp2;go_ret;exact⟨rfl,gw⟩
 by_cases h4:ky<64
 case neg =>
  have hr3:r=false:=by rw[hr2];simp[h4]
  subst hr3;clear HV0 HV1 hr2;go_enter Tryz.func62,Tryz.ntmps62;go_wp2;go_ret;exact⟨rfl,gw⟩
 simp only[h1,h2,h3,h4,decide_true,Bool.true_and] at hr2;cases b0
 ·subst hr2;go_enter Tryz.func62,Tryz.ntmps62
  go_wp2_with (go_at_call 123;refine(HV0.o _).mono ?_;rintro e w1 ⟨rfl,R1,n1,rfl⟩)
  go_ret;exact⟨rfl,gw⟩
 ·obtain rfl:r=b1:=by simpa using hr2
  clear hr2;go_enter Tryz.func62,Tryz.ntmps62
  go_wp2_with fail
  refine(HV0.o _).mono ?_;rintro e w1 ⟨rfl,R1,n1,rfl⟩
  go_wp2_with fail
  refine(HV1.o _).mono ?_;rintro e w1 ⟨rfl,R2,n2,rfl⟩;go_wp2;go_ret;exact⟨rfl,gw⟩
def recB(k:Int)(v:Val): Bool:=decide (0≤k)&&decide (k<64)&&rightV v
theorem refRec07_any(ky p q:Int)(w:World): Calls Tryz.prog 67 #[.agg #[.int .i64 ky,.int .i64 p,.int .i64 q]] w (Gives (.bool (recB ky (p,q))) w):=by
 obtain⟨r,hr⟩:∃r,recB ky (p,q)=r:=⟨_,rfl⟩;rw[hr];have hr2:r=(decide (0≤ky)&&decide (ky<64)&&rightV (p,q)):=hr.symm;clear hr;have HV0:=hY fun W=>refVal07_any p q W
 generalize rightV (p,q)=b0 at *;by_cases h3:0≤ky
 case neg =>
  have hr3:r=false:=by rw[hr2];simp[h3]
  subst hr3;clear HV0 hr2;go_enter Tryz.func67,Tryz.ntmps67;go_wp2;go_ret;exact⟨rfl,gw⟩
 by_cases h4:ky<64
 case neg =>
  have hr3:r=false:=by rw[hr2];simp[h4]
  subst hr3;clear HV0 hr2;go_enter Tryz.func67,Tryz.ntmps67;go_wp2;go_ret;exact⟨rfl,gw⟩
 simp only[h3,h4,decide_true,Bool.true_and] at hr2;subst hr2;go_enter Tryz.func67,Tryz.ntmps67
 go_wp2_with fail
 refine(HV0.o _).mono ?_;rintro e w1 ⟨rfl,R1,n1,rfl⟩;go_wp2;go_ret;exact⟨rfl,gw⟩
end Go.Proofs.YtipgfjihdglocaaGreat
namespace Go.Proofs.YtipgfjihdglocaaGreat
open Go.RowKit
structure MSpec (κ ν:Type) where
 kt:TypeId
 law:Maps.Keyed Tryz.prog kt
 kenc:κ→Value
 kinj:∀a b,kenc a=kenc b→a=b
 ok:κ→Prop
 key:∀a,ok a→∃kl,keyOf Tryz.prog kt (kenc a)=some kl
 venc:ν→Value
 dat:ν→DataW Unit
 R:Value→Option (DataW Unit×List MemPlace)
 rmk:∀v,R (venc v)=some (dat v,[])
 rinv:∀u ps v,R u=some (dat v,ps)→u=venc v
structure MpD {κ ν:Type} (S:MSpec κ ν) (D:DataW Unit) (m:List (κ×ν)):Prop where
 tidy:Maps.Tidy D
 has:∀kl,Maps.has D kl=true→∃x∈m,keyOf Tryz.prog S.kt (S.kenc x.1)=some kl
 at':∀x∈m,∀kl,keyOf Tryz.prog S.kt (S.kenc x.1)=some kl→Maps.has D kl=true∧∀zd,D.atKey kl zd=S.dat x.2
 ok:∀x∈m,S.ok x.1
 un:m.Pairwise fun a b=>a.1≠b.1
 sz:Maps.size D=m.length
def MapAt{κ ν:Type}(S:MSpec κ ν)(W:World)(b n:Nat)(m:List (κ×ν)): Prop:=∃D:DataW Unit,W.ownsMap Tryz.prog S.kt S.R b n D∧MpD S D m
theorem MapAt.made{κ ν:Type}(S:MSpec κ ν)(W:World): MapAt S (W.alloc (.map #[] 0)) W.heap.size 0 [] :=
 ⟨_,World.ownsMap_made _ _ _ _,⟨Maps.tidy_empty,fun kl h=>by simp[Maps.has] at h,fun p hp=>(by cases hp),fun p hp=>(by cases hp),List.Pairwise.nil,rfl⟩⟩
theorem MapAt.same{κ ν:Type}{S:MSpec κ ν}{W W':World}{b n:Nat}{m:List (κ×ν)}(h:MapAt S W b n m)(hb:W'.heap[b]? = W.heap[b]?): MapAt S W' b n m:=by
 obtain⟨D,⟨es,c,h1,h2⟩,h3⟩:=h;exact⟨D,⟨es,c,by rw[hb];exact h1,h2⟩,h3⟩
theorem MapAt.lt{κ ν:Type}{S:MSpec κ ν}{W:World}{b n:Nat}{m:List (κ×ν)}(h:MapAt S W b n m): b<W.heap.size:=by
 obtain⟨D,ho,_⟩:=h;exact ho.lt
theorem MapAt.grew{κ ν:Type}{S:MSpec κ ν}{W W':World}{b n:Nat}{m:List (κ×ν)}(h:MapAt S W b n m)(g:Grew W W'): MapAt S W' b n m:=h.same (g.below.block b h.lt)
theorem MapAt.more{κ ν:Type}{S:MSpec κ ν}{W:World}{b n n':Nat}{m:List (κ×ν)}(h:MapAt S W b n m)(hn:n≤n'): MapAt S W b n' m:=by
 obtain⟨D,ho,h2⟩:=h;exact⟨D,ho.mono hn,h2⟩
theorem MpD.fresh{κ ν:Type}{S:MSpec κ ν}{D:DataW Unit}{m:List (κ×ν)}(h:MpD S D m){k:κ}(hk:∀x∈m,x.1≠k){kl:Lit}(hl:keyOf Tryz.prog S.kt (S.kenc k)=some kl): Maps.has D kl=false:=by
 cases hh:Maps.has D kl
 ·rfl
 ·obtain⟨x,hx,hxk⟩:=h.has kl hh;exact absurd (S.kinj _ _ (S.law.inj hxk hl)) (hk x hx)
theorem MpD.put{κ ν:Type}{S:MSpec κ ν}{D:DataW Unit}{m:List (κ×ν)}(h:MpD S D m)(k:κ)(v:ν)(hok:S.ok k)(hf:∀x∈m,x.1≠k){kl:Lit}(hk:keyOf Tryz.prog S.kt (S.kenc k)=some kl): MpD S (D.put kl (S.dat v)) ((k,v)::m):=by
 have hno:=h.fresh hf hk;refine⟨h.tidy.put (S.law.key hk) _,fun k2 hh=>?_,fun y hy k2 hk2=>?_,fun y hy=>?_,List.pairwise_cons.2 ⟨fun y hy e=>hf y hy e.symm,h.un⟩,?_⟩
 ·by_cases e:k2=kl
  ·exact⟨_,List.mem_cons_self ..,by rw[e];exact hk⟩
  ·rw[Maps.has_put_other e] at hh;obtain⟨y,hy,hyk⟩:=h.has k2 hh;exact⟨y,List.mem_cons_of_mem _ hy,hyk⟩
 ·rcases List.mem_cons.1 hy with rfl|hy
  ·rw[hk] at hk2;cases hk2;exact⟨Maps.has_put_same h.tidy.isMap (S.law.key hk) _,fun zd=>Maps.atKey_put_same h.tidy.isMap (S.law.key hk) _ _⟩
  ·have hne:k2≠kl:=fun e=>hf y hy (S.kinj _ _ (S.law.inj (e▸hk2) hk))
   rw[Maps.has_put_other hne];exact⟨(h.at' y hy k2 hk2).1,fun zd=>by rw[Maps.atKey_put_other hne];exact(h.at' y hy k2 hk2).2 zd⟩
 ·rcases List.mem_cons.1 hy with rfl|hy
  ·exact hok
  ·exact h.ok y hy
 ·rw[Maps.size_put h.tidy,hno,h.sz];rfl
theorem MapAt.put{κ ν:Type}{S:MSpec κ ν}{W:World}{b n:Nat}{m:List (κ×ν)}(h:MapAt S W b n m)(hn:n<maxLen)(k:κ)(v:ν)(hok:S.ok k)(hf:∀x∈m,x.1≠k){t e:TypeId}(ht:Tryz.prog.underlying t=some (.map S.kt e)):
  ∃W',(Instr.mapUpdate t (.map (some b)) (S.kenc k) (S.venc v)).run Tryz.prog W = .ok () W'∧MapAt S W' b (n+1) ((k,v)::m)∧W.mapTurned W' b:=by
 obtain⟨D,ho,hD⟩:=h;obtain⟨kl,hk⟩:=S.key k hok;obtain⟨W',hr,ho',hg⟩:=World.ownsMap.store ho S.law ht hn hk (S.rmk v);exact⟨W',hr,⟨_,ho',hD.put k v hok hf hk⟩,hg⟩
open Classical in
noncomputable def mfind{κ ν:Type}(m:List (κ×ν))(k:κ): Option ν:=(m.find? fun x=>decide (x.1=k)).map (·.2)
open Classical in
theorem mfind_no{κ ν:Type}{m:List (κ×ν)}{k:κ}(h:∀x∈m,x.1≠k): mfind m k=none:=by
 unfold mfind;rw[List.find?_eq_none.2 fun x hx=>by simpa using h x hx];rfl
open Classical in
theorem mfind_is{κ ν:Type}{m:List (κ×ν)}{k:κ}{v:ν}(hu:m.Pairwise fun a b=>a.1≠b.1)(h:(k,v)∈m): mfind m k=some v:=by
 unfold mfind
 induction m with
 | nil=>cases h
 |cons y m ih =>
  obtain⟨h1,h2⟩:=List.pairwise_cons.1 hu;rw[List.find?_cons];rcases List.mem_cons.1 h with rfl|h3
  ·simp
  ·rw[decide_eq_false (h1 _ h3)];exact ih h2 h3
theorem mfind_cases{κ ν:Type}(m:List (κ×ν))(k:κ): (∃v,mfind m k=some v∧(k,v)∈m)∨(mfind m k=none∧∀x∈m,x.1≠k):=by
 classical
 unfold mfind
 cases h:m.find? fun x=>decide (x.1=k) with
 |none =>
  refine .inr ⟨rfl,fun x hx=>?_⟩
  simpa using List.find?_eq_none.1 h x hx
 |some x =>
  have h1:=List.find?_some h;have h2:=List.mem_of_find?_eq_some h;obtain⟨a,v⟩:=x;simp only[decide_eq_true_eq] at h1;subst h1;exact .inl ⟨v,rfl,h2⟩
theorem MpD.found{κ ν:Type}{S:MSpec κ ν}{D:DataW Unit}{m:List (κ×ν)}(h:MpD S D m){k:κ}{kl:Lit}(hl:keyOf Tryz.prog S.kt (S.kenc k)=some kl)(v0:ν): Maps.has D kl=(mfind m k).isSome∧D.atKey kl (S.dat v0)=S.dat ((mfind m k).getD v0):=by
 rcases mfind_cases m k with ⟨v,h1,h2⟩|⟨h1,h2⟩
 ·obtain⟨h3,h4⟩:=h.at' _ h2 kl hl;rw[h1];exact⟨h3,h4 _⟩
 ·have h3:=h.fresh h2 hl;rw[h1,h3];exact⟨rfl,Maps.atKey_of_not_has h3 _⟩
theorem MapAt.look{κ ν:Type}{S:MSpec κ ν}{W:World}{b n:Nat}{m:List (κ×ν)}(h:MapAt S W b n m)(k:κ)(hok:S.ok k){t e:TypeId}(ht:Tryz.prog.underlying t=some (.map S.kt e))(v0:ν)(hz:(zeroValue e).run Tryz.prog W = .ok (S.venc v0) W):
  (Instr.lookup t (.map (some b)) (S.kenc k) false).run Tryz.prog W = .ok (S.venc ((mfind m k).getD v0)) W:=by
 obtain⟨D,ho,hD⟩:=h;obtain⟨kl,hk⟩:=S.key k hok;obtain⟨v,ps,hr,hR⟩:=World.ownsMap.lookup ho S.law ht hz (S.rmk v0) hk;rw[(hD.found hk v0).2] at hR;rw[hr,S.rinv _ _ _ hR]
theorem MapAt.lookOk{κ ν:Type}{S:MSpec κ ν}{W:World}{b n:Nat}{m:List (κ×ν)}(h:MapAt S W b n m)(k:κ)(hok:S.ok k){t e:TypeId}(ht:Tryz.prog.underlying t=some (.map S.kt e))(v0:ν)(hz:(zeroValue e).run Tryz.prog W = .ok (S.venc v0) W):
  (Instr.lookup t (.map (some b)) (S.kenc k) true).run Tryz.prog W = .ok (.tuple #[S.venc ((mfind m k).getD v0),.bool (mfind m k).isSome]) W:=by
 obtain⟨D,ho,hD⟩:=h;obtain⟨kl,hk⟩:=S.key k hok;obtain⟨v,ps,hr,hR⟩:=World.ownsMap.look_ok ho S.law ht hz (S.rmk v0) hk;rw[(hD.found hk v0).2] at hR;rw[hr,S.rinv _ _ _ hR,(hD.found hk v0).1]
theorem MapAt.len{κ ν:Type}{S:MSpec κ ν}{W:World}{b n:Nat}{m:List (κ×ν)}(h:MapAt S W b n m){t e:TypeId}(ht:Tryz.prog.underlying t=some (.map S.kt e))(ty:TypeId):
  (Builtin.len_ #[t] ty #[.map (some b)]).run Tryz.prog W = .ok (.int .i64 m.length) W:=by
 obtain⟨D,ho,hD⟩:=h;rw[ho.len ht ty,hD.sz]
theorem MapAt.len_le{κ ν:Type}{S:MSpec κ ν}{W:World}{b n:Nat}{m:List (κ×ν)}(h:MapAt S W b n m): m.length≤n:=by
 obtain⟨D,ho,hD⟩:=h;have:=ho.size_le;rw[hD.sz] at this;exact this
theorem MapAt.un{κ ν:Type}{S:MSpec κ ν}{W:World}{b n:Nat}{m:List (κ×ν)}(h:MapAt S W b n m): m.Pairwise fun a b=>a.1≠b.1:=by
 obtain⟨D,ho,hD⟩:=h;exact hD.un
open Classical in
theorem MapAt.put_get{κ ν:Type}{k:κ}{v:ν}{m:List (κ×ν)}{k2:κ}: mfind ((k,v)::m) k2=if k=k2 then some v else mfind m k2:=by
 classical
 unfold mfind;rw[List.find?_cons];by_cases h:k=k2
 ·simp[h]
 ·simp[h]
theorem wpList_mapPut{κ ν:Type}{S:MSpec κ ν}{w0 W:World}{ops:Array Oper}{rest:List Oper}{o:Oper}{a:Act}{Q:Exit→Act→World→Prop}{b n:Nat}{M:List (κ×ν)}
  (hg:o.guard=none) (m k v:Operand) (t:TypeId) (hop:o.op=Op.mapUpdate t m k v) {e:TypeId} (ht:Tryz.prog.underlying t=some (.map S.kt e)) (hgr:Grew w0 W) (hb:w0.heap.size≤b)
  (hm:a.eval m = .map (some b)) (h:MapAt S W b n M) (hn:n<maxLen) (x:κ) (y:ν) (hok:S.ok x) (hf:∀z∈M,z.1≠x) (hk:a.eval k=S.kenc x) (hv:a.eval v=S.venc y)
  (hK:∀W',MapAt S W' b (n+1) ((x,y)::M)→Grew w0 W'→Keep b W W'→wpList Tryz.prog ops Q rest (a.put o.dst undef) W'):wpList Tryz.prog ops Q (o::rest) a W:=by
 refine wpList_plain hg fun K' hK'=>?_
 obtain⟨W',hrun,r1,r2⟩:=h.put hn x y hok hf ht;unfold Oper.wp;simp[execOp,hop,hm,hk,hv,hrun,Result.andThen];exact hK' _ _ (hK W' r1 (grew_turned hgr hb r2) (keep_turned r2))
end Go.Proofs.YtipgfjihdglocaaGreat
