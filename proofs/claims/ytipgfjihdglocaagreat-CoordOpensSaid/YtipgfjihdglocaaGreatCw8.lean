import Derived.Test.YtipgfjihdglocaaGreatCw4
import Derived.Test.YtipgfjihdglocaaGreatCw0
import Derived.Test.YtipgfjihdglocaaGreatCw5
import Derived.Maps.OwnOps
import Derived.RegionTactic
import Derived.BigRegion
import Derived.Deep.DeepCutAuto
import Derived.Deep.CutBlock
set_option linter.unusedSimpArgs false
set_option linter.unusedVariables false
set_option maxRecDepth 100000
set_option maxHeartbeats 64000000
namespace Go.Proofs.YtipgfjihdglocaaGreat
open Go.RowKit Ga
def ints(l:List Int): Array Value:=(l.map (Value.int .i64)).toArray
theorem ints_get(l:List Int)(k:Nat)(h:k<l.length)(d:Int): (ints l)[k]? = some (.int .i64 (l.getD k d)):=by
 unfold ints;rw[List.getElem?_toArray,List.getElem?_map,List.getElem?_eq_getElem h,List.getD_eq_getElem?_getD,List.getElem?_eq_getElem h];rfl
theorem ints_set(l:List Int)(k:Nat)(d:Int): (ints l).setIfInBounds k (.int .i64 d)=ints (l.set k d):=by
 unfold ints;rw[List.map_set];simp
def effV:List Value→Option (DataW Unit×List MemPlace)
 | [.int .i64 a,.int .i64 b]=>some (.agg [.lit (.int .i64 a),.lit (.int .i64 b)],[])
 | _=>none
def effR(v:Value): Option (DataW Unit×List MemPlace):=match v with
 | .agg c=>effV c.toList
 | _=>none
def effL:List (Int×Int×Int):=[(1,0,1),(2,0,1),(3,0,1),(4,0,1),(5,1,0),(13,1,0),(14,1,0),(15,1,0),(6,2,1),(7,2,1),(8,2,1),(17,2,1),(9,1,1),(10,1,1),(11,1,2),(12,2,2)]
def effDat(x:Int×Int): DataW Unit:=.agg [.lit (.int .i64 x.1),.lit (.int .i64 x.2)]
def effD:DataW Unit:=effL.foldl (fun D x=>D.put (.int .i64 x.1) (effDat x.2)) (.map [])
def EffAt(W:World)(bm:Nat): Prop:=W.ownsMap Tryz.prog 3 effR bm 16 effD
theorem EffAt.same{W W':World}{bm:Nat}(h:EffAt W bm)(hb:W'.heap[bm]? = W.heap[bm]?): EffAt W' bm:=by
 obtain⟨es,c,h1,h2⟩:=h;exact⟨es,c,by rw[hb];exact h1,h2⟩
theorem EffAt.lt{W:World}{bm:Nat}(h:EffAt W bm): bm<W.heap.size:=World.ownsMap.lt h
theorem EffAt.grew{W W':World}{bm:Nat}(h:EffAt W bm)(g:Grew W W'): EffAt W' bm:=h.same (g.below.block bm h.lt)
structure WalkAt (base B bd be bm cd ce:Nat) (vp:Value) (n:Nat) (W:World) (s:Vm.Cst):Prop where
 hB:base≤B
 hd:base≤bd
 he:base≤be
 n1:B≠bd
 n2:B≠be
 n3:bd≠be
 m1:B≠bm
 m2:bd≠bm
 m3:be≠bm
 cB:W.heap[B]? = some (.cells #[.slice (some ⟨bd,0,none⟩) n cd,.int .i64 s.mx,.int .i64 s.em,.bool s.u0,.bool s.u1,vp,.slice (some ⟨be,0,none⟩) n ce,.map (some bm)] 276)
 cD:W.heap[bd]? = some (.cells (ints s.depth) 3)
 cE:W.heap[be]? = some (.cells (ints s.emits) 3)
 cM:EffAt W bm
 ld:s.depth.length=n
 le:s.emits.length=n
section
variable {base B bd be bm cd ce:Nat} {vp:Value} {n:Nat} {W W':World} {s:Vm.Cst}
theorem WalkAt.grew(h:WalkAt base B bd be bm cd ce vp n W s)(g:Grew W W'): WalkAt base B bd be bm cd ce vp n W' s :=
 { h with cB:=grew_heap g h.cB,cD:=grew_heap g h.cD,cE:=grew_heap g h.cE,cM:=h.cM.grew g }
theorem WalkAt.raise(h:WalkAt base B bd be bm cd ce vp n W s)(d e:Int): WalkAt base B bd be bm cd ce vp n ((W.setCell ⟨B,1,none⟩ (.int .i64 (max s.mx d))).setCell ⟨B,2,none⟩ (.int .i64 (max s.em e))) (Vm.raise s d e) :=
 { h with
  cB:=by rw[set_self (set_self h.cB)];rfl
  cD:=by rw[set_other h.n1,set_other h.n1];exact h.cD
  cE:=by rw[set_other h.n2,set_other h.n2];exact h.cE
  cM:=h.cM.same (by rw[set_other h.m1,set_other h.m1]) }
theorem WalkAt.put(h:WalkAt base B bd be bm cd ce vp n W s)(k:Nat)(d e:Int): WalkAt base B bd be bm cd ce vp n ((W.setCell ⟨bd,k,none⟩ (.int .i64 d)).setCell ⟨be,k,none⟩ (.int .i64 e)) { s with depth:=s.depth.set k d,emits:=s.emits.set k e } :=
 { h with
  cB:=by rw[set_other (fun x=>h.n2 x.symm),set_other (fun x=>h.n1 x.symm)];exact h.cB
  cD:=by rw[set_other (fun x=>h.n3 x.symm),set_self h.cD,ints_set]
  cE:=by rw[set_self (by rw[set_other h.n3];exact h.cE),ints_set]
  cM:=h.cM.same (by rw[set_other h.m3,set_other h.m2])
  ld:=by simp[h.ld]
  le:=by simp[h.le] }
end
def Others(B bd be:Nat)(W W':World): Prop:=W.heap.size≤W'.heap.size∧∀q,q<W.heap.size→q≠B→q≠bd→q≠be→W'.heap[q]? = W.heap[q]?
theorem Others.refl(B bd be:Nat)(W:World): Others B bd be W W:=⟨Nat.le_refl _,fun _ _ _ _ _=>rfl⟩
theorem Others.set{B bd be b o:Nat}{W X:World}(h:Others B bd be W X)(hb:b=B∨b=bd∨b=be)(v:Value): Others B bd be W (X.setCell ⟨b,o,none⟩ v) :=
 ⟨by rw[World.size_setCell];exact h.1,fun q h0 h1 h2 h3=>by rw[set_other (by rintro rfl;rcases hb with h|h|h<;>contradiction)];exact h.2 q h0 h1 h2 h3⟩
theorem Others.grew{B bd be:Nat}{W X Y:World}(h:Others B bd be W X)(g:Grew X Y): Others B bd be W Y :=
 ⟨Nat.le_trans h.1 g.below.size,fun q h0 h1 h2 h3=>(g.below.block q (Nat.lt_of_lt_of_le h0 h.1)).trans (h.2 q h0 h1 h2 h3)⟩
theorem Others.trans{B bd be:Nat}{W X Y:World}(h:Others B bd be W X)(g:Others B bd be X Y): Others B bd be W Y :=
 ⟨Nat.le_trans h.1 g.1,fun q h0 h1 h2 h3=>(g.2 q (Nat.lt_of_lt_of_le h0 h.1) h1 h2 h3).trans (h.2 q h0 h1 h2 h3)⟩
structure Came (w0:World) (B bd be bm cd ce:Nat) (vp:Value) (n:Nat) (W:World) (s:Vm.Cst) (W':World):Prop where
 grew:Grew w0 W'
 walk:WalkAt w0.heap.size B bd be bm cd ce vp n W' s
 oth:Others B bd be W W'
theorem Came.more{w0:World}{B bd be bm cd ce:Nat}{vp:Value}{n:Nat}{W W' W'':World}{s:Vm.Cst}(h:Came w0 B bd be bm cd ce vp n W s W')(g:Grew W' W''): Came w0 B bd be bm cd ce vp n W s W'' :=
 ⟨h.grew.trans g,h.walk.grew g,h.oth.grew g⟩
theorem Came.drew{w0:World}{B bd be bm cd ce:Nat}{vp:Value}{n:Nat}{W W':World}{s:Vm.Cst}(h:Came w0 B bd be bm cd ce vp n W s W'): Came w0 B bd be bm cd ce vp n W s W'.drew:=h.more (Grew.refl _).drew
theorem run_max(P:Program)(w:World)(ts:Array TypeId)(t:TypeId)(x y:Int): (Builtin.max_ ts t #[.int .i64 x,.int .i64 y]).run P w = .ok (.int .i64 (max x y)) w:=by
 rw[run_max_int2];have:(if y>x then y else x)=max x y:=by rw[Int.max_def];split<;>split<;>omega
 rw[this]
theorem come_high{n:Nat}{s:Vm.Cst}{k:Nat}{d e:Int}(h:8<d∨4<e): Vm.come n s k d e=(Vm.raise s d e,false):=by
 unfold Vm.come;rw[if_pos h]
theorem come_end{n:Nat}{s:Vm.Cst}{d e:Int}(hd:d≤8)(he:e≤4): Vm.come n s n d e=(Vm.raise s d e,true):=by
 unfold Vm.come;rw[if_neg (by omega),if_pos rfl]
theorem come_off{n:Nat}{s:Vm.Cst}{k:Nat}{d e:Int}(hd:d≤8)(he:e≤4)(hk:k<n)(h1:s.depth.getD k (-1) ≠ -1)(h2:s.depth.getD k (-1)≠d): Vm.come n s k d e=(Vm.raise s d e,false):=by
 unfold Vm.come;rw[if_neg (by omega),if_neg (by omega),if_pos ⟨h1,h2⟩]
theorem come_put{n:Nat}{s:Vm.Cst}{k:Nat}{d e:Int}(hd:d≤8)(he:e≤4)(hk:k<n)(h1:s.depth.getD k (-1) = -1∨s.depth.getD k (-1)=d): Vm.come n s k d e=({ Vm.raise s d e with depth:=s.depth.set k d,emits:=s.emits.set k (max (s.emits.getD k 0) e) },true):=by
 unfold Vm.come;rw[if_neg (by omega),if_neg (by omega),if_neg (by omega)]
theorem come_any(w0 W:World)(B bd be bm cd ce:Nat)(vp:Value)(n:Nat)(s:Vm.Cst)(k:Nat)(d e:Int)(hs:WalkAt w0.heap.size B bd be bm cd ce vp n W s)(hg:Grew w0 W)(hvp:∃a c,vp = .slice a n c)(hk:k≤n)(hn:n≤24):
  Calls Tryz.prog 201 #[.pointer (some ⟨B,0,none⟩),.int .i64 k,.int .i64 d,.int .i64 e] W fun r W'=>r = .returned (.bool (Vm.come n s k d e).2)∧Came w0 B bd be bm cd ce vp n W (Vm.come n s k d e).1 W':=by
 obtain⟨av,cv,rfl⟩:=hvp;have hcB:=fun o=>cell_of (o:=o) hs.cB
 have hfB:=fun o=>frozen_of (o:=o) hs.cB
 have hc0:=hcB 0;have hc1:=hcB 1;have hc2:=hcB 2;have hc5:=hcB 5;have hc6:=hcB 6;have hf1:=hfB 1;have hf2:=hfB 2;simp at hc0 hc1 hc2 hc5 hc6;clear hcB hfB;have hp:=Pre.mk (heap_lt hs.cB);have hpd:=Pre.mk (heap_lt hs.cD);have hpe:=Pre.mk (heap_lt hs.cE);have n1:=hs.n1;have n2:=hs.n2;have n3:=hs.n3;have hfd:=frozen_of (o:=k) hs.cD;have hfe:=frozen_of (o:=k) hs.cE;have hcd:k<n→W.cell? ⟨bd,k,none⟩=some (.int .i64 (s.depth.getD k (-1))):=fun h=>(cell_of hs.cD).trans (ints_get _ _ (by rw[hs.ld];exact h) _)
 have hce:k<n→W.cell? ⟨be,k,none⟩=some (.int .i64 (s.emits.getD k 0)):=fun h=>(cell_of hs.cE).trans (ints_get _ _ (by rw[hs.le];exact h) _)
 have HS:=hY hs;have HG:=hY hg;have hmx:=run_max Tryz.prog;clear hs hg
 have HR:Came w0 B bd be bm cd ce (.slice av n cv) n W (Vm.raise s d e) ((W.setCell ⟨B,1,none⟩ (.int .i64 (max s.mx d))).setCell ⟨B,2,none⟩ (.int .i64 (max s.em e))) :=
  ⟨(HG.o.set HS.o.hB _).set HS.o.hB _,HS.o.raise d e,((Others.refl _ _ _ _).set (.inl rfl) _).set (.inl rfl) _⟩
 have HR':=hY HR;clear HR;by_cases hd:8<d
 ·rw[come_high (.inl hd)];clear hcd hce;go_enter Tryz.func201,Tryz.ntmps201;go_wp2
  go_region
  go_wp2;go_ret;exact⟨rfl,HR'.o.drew⟩
 by_cases he:4<e
 ·rw[come_high (.inr he)];have hd':d≤8:=by omega
  clear hcd hce hd;go_enter Tryz.func201,Tryz.ntmps201;go_wp2
  go_region
  go_wp2;go_ret;exact⟨rfl,HR'.o.drew⟩
 have hd':d≤8:=by omega
 have he':e≤4:=by omega
 clear hd he;by_cases hkn:k=n
 ·subst hkn;rw[come_end hd' he'];clear hcd hce;go_enter Tryz.func201,Tryz.ntmps201;go_wp2
  go_region
  go_wp2;go_ret;exact⟨rfl,HR'.o.drew⟩
 have hkl:k<n:=by omega
 have hkb:((k:Int)==(n:Int))=false:=by simp;omega
 have hcd':=hcd hkl;have hce':=hce hkl;have hoff:=come_off (s:=s) hd' he' hkl;have hput:=come_put (s:=s) hd' he' hkl
 have HP:∀x y:Int,Came w0 B bd be bm cd ce (.slice av n cv) n W { Vm.raise s d e with depth:=s.depth.set k x,emits:=s.emits.set k y } ((((W.setCell ⟨B,1,none⟩ (.int .i64 (max s.mx d))).setCell ⟨B,2,none⟩ (.int .i64 (max s.em e))).setCell ⟨bd,k,none⟩ (.int .i64 x)).setCell ⟨be,k,none⟩ (.int .i64 y)) :=
  fun x y=>⟨(HR'.o.grew.set HS.o.hd _).set HS.o.he _,HR'.o.walk.put k x y,(HR'.o.oth.set (.inr (.inl rfl)) _).set (.inr (.inr rfl)) _⟩
 have HP':=hY HP;clear HP hcd hce hkn;generalize s.depth.getD k (-1)=dk at *;generalize s.emits.getD k 0=ek at *;by_cases h1:dk = -1
 ·subst h1;rw[hput (.inl rfl)];clear hput hoff;have hdn:((-1:Int) != -1)=false:=by decide
  go_enter Tryz.func201,Tryz.ntmps201;go_wp2
  go_region
  go_wp2
  go_region
  go_wp2;go_ret
  first|exact⟨rfl,HP'.o _ _⟩|exact⟨rfl,(HP'.o _ _).drew⟩|exact⟨rfl,(HP'.o _ _).drew.drew⟩
 ·by_cases h2:dk=d
  ·subst h2;rw[hput (.inr rfl)];clear hput hoff;have hdn:(dk != -1)=true:=by simpa using h1
   have hdd:(dk != dk)=false:=by simp
   clear h1;go_enter Tryz.func201,Tryz.ntmps201;go_wp2
   go_region
   go_wp2
   go_region
   go_wp2;go_ret
   first|exact⟨rfl,HP'.o _ _⟩|exact⟨rfl,(HP'.o _ _).drew⟩|exact⟨rfl,(HP'.o _ _).drew.drew⟩
  ·rw[hoff h1 h2];clear hput hoff;have hdn:(dk != -1)=true:=by simpa using h1
   have hdd:(dk != d)=true:=by simpa using h2
   clear h1 h2;go_enter Tryz.func201,Tryz.ntmps201;go_wp2
   go_region
   go_wp2;go_ret;exact⟨rfl,HR'.o.drew⟩
end Go.Proofs.YtipgfjihdglocaaGreat
namespace Go
open Go.Maps (Keyed)
theorem wpList_insert_own{H:Type}{P:Program}{w0 w:World}{ops:Array Oper}{rest:List Oper}{o:Oper}{a:Act}{Q:Exit→Act→World→Prop}
  (hg:o.guard=none) (m x v:Operand) (t:TypeId) (hop:o.op=Op.insert t m x v)
  (k e:TypeId) (K:Keyed P k) (ht:P.underlying t=some (.map k e)) (R:Value→Option (DataW H×List MemPlace)) (b n:Nat) (D:DataW H) (hgr:Grew w0 w) (hb:w0.heap.size≤b)
  (hm:a.eval m = .map (some b)) (hown:w.ownsMap P k R b n D) (hn:n<maxLen) (key val:Value) (kl:Lit) (hx:a.eval x=key) (hv:a.eval v=val) (hkey:keyOf P k key=some kl)
  (d:DataW H) (ps:List MemPlace) (hval:R val=some (d,ps))
  (hK:∀w',w'.ownsMap P k R b (n+1) (D.put kl d)→Grew w0 w'→wpList P ops Q rest (a.put o.dst undef) w') :
  wpList P ops Q (o::rest) a w:=by
 refine wpList_plain hg fun K' hK'=>?_
 obtain⟨w',hrun,r1,r2⟩:=hown.update K ht hn hkey hval;unfold Oper.wp;simp[execOp,hop,hm,hx,hv,hrun,Result.andThen];exact hK' _ _ (hK w' r1 (hgr.grown r2 (fun k hk=>by cases hk;exact hb)))
end Go
namespace Go.Proofs.YtipgfjihdglocaaGreat
open Go.RowKit Ga
theorem law_int:Maps.Keyed Tryz.prog 3:=Maps.int_keyed Tryz.underlying3
theorem keyI(x:Int)(h : -9223372036854775808≤x∧x≤9223372036854775807): keyOf Tryz.prog 3 (.int .i64 x)=some (.int .i64 x):=Maps.keyOf_int_mk Tryz.underlying3 (WalkArith.wf_i64 h)
theorem effects_any(w:World): Calls Tryz.prog 199 #[] w fun e W'=>∃bm,e = .returned (.map (some bm))∧w.heap.size≤bm∧EffAt W' bm∧Grew w W':=by
 have hmm:=@run_makeMap Tryz.prog;have HOWN:=hY (World.ownsMap_made (H:=Unit) w Tryz.prog 3 effR);have HG:=hY ((Grew.refl w).alloc (.map #[] 0));go_enter Tryz.func199,Tryz.ntmps199
 go_wp2_with (refine wpList_insert_own (w0:=w) rfl (.tmp 1) _ _ 273 rfl 3 303 law_int Tryz.underlying273 effR _ _ _ HG.o (Nat.le_refl _) rfl HOWN.o (by unfold maxLen;omega) _ _ _ rfl rfl (keyI _ (by decide)) _ [] rfl ?_;intro w2 hown2 hg2;replace HOWN:=hY hown2;replace HG:=hY hg2;clear hown2 hg2)
 go_ret;exact⟨_,rfl,Nat.le_refl _,HOWN.o,HG.o⟩
def takesI(op:Int): Int:=Vm.takes op
def leavesI(op:Int): Int:=Vm.leaves op
theorem effD_at(op:Int)(h0:0≤op)(h1:op≤17): effD.atKey (.int .i64 op) (effDat (0,0))=effDat (takesI op,leavesI op):=by
 have hc:op=0∨op=1∨op=2∨op=3∨op=4∨op=5∨op=6∨op=7∨op=8∨op=9∨op=10∨op=11∨op=12∨op=13∨op=14∨op=15∨op=16∨op=17:=by omega
 rcases hc with rfl|rfl|rfl|rfl|rfl|rfl|rfl|rfl|rfl|rfl|rfl|rfl|rfl|rfl|rfl|rfl|rfl|rfl<;>rfl
theorem effV_inv{l:List Value}{d:DataW Unit}{ps:List MemPlace}{x:Int×Int}(h:effV l=some (d,ps))(hd:d=effDat x): l=[.int .i64 x.1,.int .i64 x.2]:=by
 unfold effV at h;split at h
 ·cases h;unfold effDat at hd;simp at hd;rw[hd.1,hd.2]
 ·cases h
theorem effR_inv{v:Value}{d:DataW Unit}{ps:List MemPlace}{x:Int×Int}(h:effR v=some (d,ps))(hd:d=effDat x): v = .agg #[.int .i64 x.1,.int .i64 x.2]:=by
 cases v with
 |agg c =>
  have:=effV_inv (l:=c.toList) h hd;cases c;simp at this
  rw[this]
 | _=>cases h
theorem zeroEff(w:World): (zeroValue 303).run Tryz.prog w = .ok (.agg #[.int .i64 0,.int .i64 0]) w:=by kernel_rfl
theorem eff_look{W:World}{bm:Nat}(h:EffAt W bm)(op:Int)(h0:0≤op)(h1:op≤17): (Instr.lookup 273 (.map (some bm)) (.int .i64 op) false).run Tryz.prog W = .ok (.agg #[.int .i64 (takesI op),.int .i64 (leavesI op)]) W:=by
 obtain⟨v,ps,h2,h3⟩:=World.ownsMap.lookup h law_int Tryz.underlying273 (zeroEff W) (zd:=effDat (0,0)) (zp:=[]) rfl (keyI op (by omega));rw[effD_at op h0 h1] at h3;rw[h2,effR_inv (x:=(takesI op,leavesI op)) h3 rfl]
end Go.Proofs.YtipgfjihdglocaaGreat
namespace Go.Proofs.YtipgfjihdglocaaGreat
open Go.RowKit Ga
theorem run_min(P:Program)(w:World)(ts:Array TypeId)(t:TypeId)(x y:Int): (Builtin.min_ ts t #[.int .i64 x,.int .i64 y]).run P w = .ok (.int .i64 (min x y)) w:=by
 rw[run_min_int2];have:(if y<x then y else x)=min x y:=by rw[Int.min_def];split<;>split<;>omega
 rw[this]
def encZ(n:Nat): List Value:=[.int .i64 n]
theorem encZ_len(n:Nat): (encZ n).length=1:=rfl
theorem right_args{x y:Int}(h:Co.rightI (x,y)=true): 0≤x∧x≤17 ∧ -524288≤y∧y≤524287∧(x=15∨x=16→1≤y)∧(x=4∨x=5→y=0∨y=1):=by
 unfold Co.rightI Co.lo Co.hi at h;simp only[Bool.and_eq_true,decide_eq_true_eq] at h;grind
theorem next_any(v:Value)(l:List Val)(k:Nat)(hk:k<l.length)(hl:l.length≤24)(hr:Co.rightI l[k]=true)(w:World)(hv:ValsAt w v l):
  Calls Tryz.prog 226 #[v,.int .i64 k] w fun e w'=>∃u,e = .returned u∧OwnAt w.heap.size 3 1 encZ w' u (Vm.next l k l[k])∧Grew w w':=by
 obtain⟨a,cap,rfl,hm,hx⟩:=hv.open2;obtain⟨b,off,rfl,hb,h0,h1⟩:=hx k hk;clear hx hv;have hmn:=run_min Tryz.prog;generalize l[k]=xy at *;obtain⟨x,y⟩:=xy;simp only at h0 h1;obtain⟨r0,r1,r2,r3,r4,-⟩:=right_args hr;clear hr;by_cases e0:x=0
 ·subst e0;have hn:Vm.next l k (0,y)=[]:=rfl;have HN:=hY hn;clear hn r4;go_enter Tryz.func226,Tryz.ntmps226;go_wp2;go_ret;exact⟨_,rfl,by rw[HN.o];exact OwnAt.nil _,gw⟩
 by_cases e16:x=16
 ·subst e16;have hn:Vm.next l k (16,y)=[min (k+1+y.toNat) l.length]:=rfl;have hy:1≤y:=r4 (.inr rfl);have HN:=hY hn;clear hn r4 e0;go_enter Tryz.func226,Tryz.ntmps226;go_wp2;go_ret;refine⟨_,rfl,?_,gw⟩;rw[HN.o];refine OwnAt.fresh rfl rfl rfl (by simp[maxLen]) encZ_len (by simp[go_sem]) (by simp[go_sem]) ?_;simp[encZ];omega
 by_cases e15:x=15
 ·subst e15;have hn:Vm.next l k (15,y)=[k+1,min (k+1+y.toNat) l.length]:=rfl;have hy:1≤y:=r4 (.inl rfl);have HN:=hY hn;clear hn r4 e0 e16;go_enter Tryz.func226,Tryz.ntmps226;go_wp2;go_ret;refine⟨_,rfl,?_,gw⟩;rw[HN.o];refine OwnAt.fresh rfl rfl rfl (by simp[maxLen]) encZ_len (by simp[go_sem]) (by simp[go_sem]) ?_;simp[encZ];omega
 ·have hn:Vm.next l k (x,y)=[k+1]:=by unfold Vm.next;rw[if_neg e0,if_neg e16,if_neg e15]
  have HN:=hY hn;have b0:(x==0)=false:=by simpa using e0
  have b16:(x==16)=false:=by simpa using e16
  have b15:(x==15)=false:=by simpa using e15
  clear hn r4 e0 e16 e15;go_enter Tryz.func226,Tryz.ntmps226;go_wp2;go_ret;refine⟨_,rfl,?_,gw⟩;rw[HN.o];refine OwnAt.fresh rfl rfl rfl (by simp[maxLen]) encZ_len (by simp[go_sem]) (by simp[go_sem]) ?_;simp[encZ]
theorem uses_len(s:Vm.Cst)(i:Vm.Ins): (Vm.uses s i).depth=s.depth∧(Vm.uses s i).emits=s.emits∧(Vm.uses s i).mx=s.mx∧(Vm.uses s i).em=s.em:=by
 unfold Vm.uses;split
 ·split<;>exact⟨rfl,rfl,rfl,rfl⟩
 ·exact⟨rfl,rfl,rfl,rfl⟩
theorem WalkAt.use0{base B bd be bm cd ce:Nat}{vp:Value}{n:Nat}{W:World}{s:Vm.Cst}(h:WalkAt base B bd be bm cd ce vp n W s): WalkAt base B bd be bm cd ce vp n (W.setCell ⟨B,3,none⟩ (.bool true)) { s with u0:=true } :=
 { h with
  cB:=by rw[set_self h.cB];rfl
  cD:=by rw[set_other h.n1];exact h.cD
  cE:=by rw[set_other h.n2];exact h.cE
  cM:=h.cM.same (by rw[set_other h.m1]) }
theorem WalkAt.use1{base B bd be bm cd ce:Nat}{vp:Value}{n:Nat}{W:World}{s:Vm.Cst}(h:WalkAt base B bd be bm cd ce vp n W s): WalkAt base B bd be bm cd ce vp n (W.setCell ⟨B,4,none⟩ (.bool true)) { s with u1:=true } :=
 { h with
  cB:=by rw[set_self h.cB];rfl
  cD:=by rw[set_other h.n1];exact h.cD
  cE:=by rw[set_other h.n2];exact h.cE
  cM:=h.cM.same (by rw[set_other h.m1]) }
theorem next_le{p:List Vm.Ins}{k:Nat}{i:Vm.Ins}(hk:k<p.length): ∀a∈Vm.next p k i,a≤p.length:=by
 intro a ha;unfold Vm.next at ha;split at ha
 ·cases ha
 split at ha
 ·rw[List.mem_singleton] at ha;omega
 split at ha
 ·rcases List.mem_cons.1 ha with e|e
  ·omega
  ·rw[List.mem_singleton] at e;omega
 ·rw[List.mem_singleton] at ha;omega
theorem next_len(p:List Vm.Ins)(k:Nat)(i:Vm.Ins): (Vm.next p k i).length≤2:=by
 unfold Vm.next
 (repeat' split)<;>simp
theorem comes_at{n:Nat}{d e:Int}{l:List Nat}{s:Vm.Cst}{j:Nat}(h:j<l.length): Vm.comes n d e (l.drop j) s=if (Vm.come n s l[j] d e).2 then Vm.comes n d e (l.drop (j+1)) (Vm.come n s l[j] d e).1 else ((Vm.come n s l[j] d e).1,false):=by
 rw[List.drop_eq_getElem_cons h,Vm.comes]
theorem Came.trans{w0:World}{B bd be bm cd ce:Nat}{vp:Value}{n:Nat}{W X Y:World}{s t:Vm.Cst}(h:Came w0 B bd be bm cd ce vp n W s X)(g:Came w0 B bd be bm cd ce vp n X t Y): Came w0 B bd be bm cd ce vp n W t Y :=
 ⟨g.grew,g.walk,h.oth.trans g.oth⟩
theorem Came.refl{w0:World}{B bd be bm cd ce:Nat}{vp:Value}{n:Nat}{W:World}{s:Vm.Cst}(g:Grew w0 W)(h:WalkAt w0.heap.size B bd be bm cd ce vp n W s): Came w0 B bd be bm cd ce vp n W s W:=⟨g,h,Others.refl _ _ _ _⟩
theorem Came.thn{w0:World}{B bd be bm cd ce:Nat}{vp:Value}{n:Nat}{W X X' Y:World}{s t:Vm.Cst}(h:Came w0 B bd be bm cd ce vp n W s X)(hg:Grew X X')(g:Came w0 B bd be bm cd ce vp n X' t Y): Came w0 B bd be bm cd ce vp n W t Y :=
 ⟨g.grew,g.walk,(h.oth.grew hg).trans g.oth⟩
theorem own_open{base:Nat}{w:World}{u:Value}{nx:List Nat}(h:OwnAt base 3 1 encZ w u nx): ∃a c,u = .slice a nx.length c:=by
 obtain⟨a,c,h,_⟩:=h.rows encZ_len;exact⟨a,c,h⟩
theorem own_cell{base:Nat}{w:World}{a:Option Addr}{c:Nat}{nx:List Nat}(h:OwnAt base 3 1 encZ w (.slice a nx.length c) nx)(j:Nat)(hj:j<nx.length): ∃b off,a=some ⟨b,off,none⟩∧Pre b w∧w.cell? ⟨b,off+j,none⟩=some (.int .i64 (nx[j]:Nat)):=by
 have hr:RowsAt 1 (fun n:Nat=>[Value.int .i64 n]) w (.slice a nx.length c) nx:=h.rows encZ_len;obtain⟨a',c',e,_,hx⟩:=hr.open1;cases e;exact hx j hj
theorem set_in{W:World}{o:Obj}{R:Array Obj}{N b i:Nat}{v:Value}(hb:b<W.heap.size): ((W.setCell ⟨b,i,none⟩ v).alloc o).more R N=((W.alloc o).more R N).setCell ⟨b,i,none⟩ v:=by
 rw[←World.setCell_alloc_past o b i v hb,←World.setCell_more_past R N b i v (by rw[World.size_alloc];omega)]
theorem step_any(w0 W:World)(B bd be bm cd ce:Nat)(vp:Value)(l:List Val)(s:Vm.Cst)(k:Nat)(hs:WalkAt w0.heap.size B bd be bm cd ce vp l.length W s)(hg:Grew w0 W)(hv0:ValsAt w0 vp l)(hk:k<l.length)(hl:l.length≤24)(hr:Co.rightI l[k]=true)(hd:0≤s.depth.getD k (-1)∧s.depth.getD k (-1)≤8)(he:0≤s.emits.getD k 0∧s.emits.getD k 0≤4):
  Calls Tryz.prog 202 #[.pointer (some ⟨B,0,none⟩),.int .i64 k] W fun r W'=>r = .returned (.bool (Vm.stepC l s k l[k]).2)∧Came w0 B bd be bm cd ce vp l.length W (Vm.stepC l s k l[k]).1 W':=by
 have hv:=hv0.grew hg;obtain⟨a,cap,rfl,hm,hx⟩:=hv.open2;obtain⟨b,off,rfl,hb,h0,h1⟩:=hx k hk;have HV:=hY hv0;clear hx hv0;have hcB:=fun o=>cell_of (o:=o) hs.cB
 have hc0:=hcB 0;have hc3:=hcB 3;have hc4:=hcB 4;have hc5:=hcB 5;have hc6:=hcB 6;have hc7:=hcB 7;simp at hc0 hc3 hc4 hc5 hc6 hc7;have hfB:=fun o=>frozen_of (o:=o) hs.cB
 have hf3:=hfB 3;have hf4:=hfB 4;clear hcB hfB;have hp:=Pre.mk (heap_lt hs.cB);have hpd:=Pre.mk (heap_lt hs.cD);have hpe:=Pre.mk (heap_lt hs.cE);have hpm:=Pre.mk hs.cM.lt;have hcd:W.cell? ⟨bd,k,none⟩=some (.int .i64 (s.depth.getD k (-1))):=(cell_of hs.cD).trans (ints_get _ _ (by rw[hs.ld];exact hk) _);have hce:W.cell? ⟨be,k,none⟩=some (.int .i64 (s.emits.getD k 0)):=(cell_of hs.cE).trans (ints_get _ _ (by rw[hs.le];exact hk) _);have n1:=hs.n1;have n2:=hs.n2;have n3:=hs.n3;have HS:=hY hs;have HG:=hY hg;have HRT:=hY hr;have hxy:∃x y:Int,l[k]=(x,y):=⟨_,_,rfl⟩;obtain⟨x,y,hxy⟩:=hxy;rw[hxy] at h0 h1 hr ⊢;simp only at h0 h1;have HXY:=hY hxy;obtain⟨r0,r1,r2,r3,-,r4⟩:=right_args hr;have hlook:∀o R N,(Instr.lookup 273 (.map (some bm)) (.int .i64 x) false).run Tryz.prog ((W.alloc o).more R N) = .ok (.agg #[.int .i64 (takesI x),.int .i64 (leavesI x)]) ((W.alloc o).more R N):=fun o R N=>eff_look (hs.cM.grew gw) x r0 r1
 have hst:Vm.stepC l s k (x,y)=if s.depth.getD k (-1)<takesI x then (s,false) else Vm.comes l.length (s.depth.getD k (-1)-takesI x+leavesI x) (s.emits.getD k 0+if x=14 then 1 else 0) (Vm.next l k (x,y)) (Vm.uses s (x,y)):=rfl
 obtain⟨st,hst'⟩:∃st,st=Vm.stepC l s k (x,y):=⟨_,rfl⟩;rw[←hst'];have HST:=hY (hst'.trans hst);clear hst hst' hs hg hv hr hxy;obtain⟨d0,d8⟩:=hd;obtain⟨e0,e4⟩:=he
 have ht:0≤takesI x∧takesI x≤2∧0≤leavesI x∧leavesI x≤2:=by
  unfold takesI leavesI Vm.takes Vm.leaves;refine⟨by omega,?_,by omega,?_⟩<;>(repeat' split)<;>omega
 obtain⟨t0,t2,v0,v2⟩:=ht;generalize hdk:s.depth.getD k (-1)=dk at *;have HDK:=hY hdk;clear hdk;generalize s.emits.getD k 0=ek at *;generalize takesI x=tk at *;generalize leavesI x=lv at *;go_enter Tryz.func202,Tryz.ntmps202
 go_upto_region 2 with fail
 go_cut [6] (fun s6 wx=>∃b6,s6 = .pointer (some ⟨b6,0,none⟩)∧Grew (W.alloc (.cells #[.int .i64 x,.int .i64 y] 187)) wx∧W.heap.size+1≤b6∧wx.heap[b6]? = some (.cells #[.int .i64 tk,.int .i64 lv] 303))
 case first =>
  refine wp_region_seq 8 Tryz.mixed (by kernel_rfl) (by kernel_rfl) ?_
  iterate 7
   apply Seq.val
   focus
    rintro w1 u ⟨R1,n1,rfl⟩ hF;simp[moreFacts,Fact.more,Oper.deps,Region.binds,List.filter_cons,World.more_drew] at hF;simp[putFacts,Oper.deps,Region.binds,List.filter_cons,Region.dstOf,Fact.at,Act.put,World.more_drew];go_wp2;exact⟨gw,rfl,_,_,rfl,rfl,rfl⟩
  apply Seq.new #[.int .i64 0,.int .i64 0] 303
  focus
   rintro w1 u ⟨R1,n1,rfl⟩ hF;clear hF;simp[putFacts,Oper.deps,Region.binds,List.filter_cons,Region.dstOf,Fact.at,Act.put,World.more_drew];go_wp2;exact⟨gw,rfl,_,_,rfl,rfl,_,rfl,heap_new_at _ _ _ (by simp[go_sem]),by simp[go_sem],by simp[go_sem]⟩
  rintro u w1 ⟨R1,n1,rfl⟩ hF;simp[moreFacts,apartFacts,Fact.more,Fact.isNew,List.range_succ,IsNew,World.more_drew] at hF;obtain⟨b6,e6,h6,s6⟩:=hF;have g6:Grew (W.alloc (.cells #[.int .i64 x,.int .i64 y] 187)) ((W.alloc (.cells #[.int .i64 x,.int .i64 y] 187)).more R1 n1):=⟨_,_,rfl⟩;simp[putFacts,Region.dstOf,Fact.at,Act.put,List.range_succ,World.more_drew,e6];generalize ((W.alloc (.cells #[.int .i64 x,.int .i64 y] 187)).more R1 n1)=wx at *;have k0:=cell_of (o:=0) h6;have k1:=cell_of (o:=1) h6;have k2:=frozen_of (o:=0) h6;have k3:=frozen_of (o:=1) h6;simp at k0 k1;have H6:=hY h6;clear h6 hlook
  go_wp2_with fail
  go_meet
  refine⟨b6,rfl,(g6.set (by simpa [go_sem] using s6) _).set (by simpa [go_sem] using s6) _,s6,?_⟩;rw[set_self (set_self H6.o)];rfl
 case rest =>
  obtain⟨b6,rfl,⟨R6,N6,rfl⟩,s6,h6⟩:=hcut;have k0:=cell_of (o:=0) h6;have k1:=cell_of (o:=1) h6;simp at k0 k1;have p6:Pre b6 ((W.alloc (.cells #[.int .i64 x,.int .i64 y] 187)).more R6 N6):=heap_lt h6;have H6:=hY h6
  have H6s:Hid (∀(o:Nat) (v:Value),(((W.setCell ⟨B,o,none⟩ v).alloc (.cells #[.int .i64 x,.int .i64 y] 187)).more R6 N6).heap[b6]? = some (.cells #[.int .i64 tk,.int .i64 lv] 303)):=hY fun o v=>by
   rw[set_in hp,set_other (show B≠b6 by have:B<W.heap.size:=hp;omega)];exact H6.o
  clear h6 hlook;by_cases hlt:dk<tk
  ·go_wp2;refine wp_region_seq 11 Tryz.mixed (by kernel_rfl) (by kernel_rfl) ?_
   iterate 11
    apply Seq.val
    focus
     rintro w1 u ⟨R1,n1,rfl⟩ hF;simp[moreFacts,Fact.more,Oper.deps,Region.binds,List.filter_cons,World.more_drew] at hF;simp[putFacts,Oper.deps,Region.binds,List.filter_cons,Region.dstOf,Fact.at,Act.put,World.more_drew];go_wp2;exact⟨gw,rfl,_,_,rfl,rfl,rfl⟩
   rintro u w1 ⟨R1,n1,rfl⟩ hF;clear hF;simp[putFacts,Region.dstOf,Fact.at,Act.put,List.range_succ,World.more_drew];go_wp2;go_ret;rw[HST.o.trans (if_pos hlt)];exact⟨rfl,(Came.refl HG.o HS.o).more gw⟩
  ·replace HST:=hY (HST.o.trans (if_neg hlt))
   go_wp2;refine wp_region_seq 11 Tryz.mixed (by kernel_rfl) (by kernel_rfl) ?_
   iterate 11
    apply Seq.val
    focus
     rintro w1 u ⟨R1,n1,rfl⟩ hF;simp[moreFacts,Fact.more,Oper.deps,Region.binds,List.filter_cons,World.more_drew] at hF;simp[putFacts,Oper.deps,Region.binds,List.filter_cons,Region.dstOf,Fact.at,Act.put,World.more_drew];go_wp2;exact⟨gw,rfl,_,_,rfl,rfl,rfl⟩
   rintro u w1 ⟨R1,n1,rfl⟩ hF;clear hF;simp[putFacts,Region.dstOf,Fact.at,Act.put,List.range_succ,World.more_drew]
   go_upto_block 0 with fail
   go_cut [7] (fun s7 wx=>s7 = .int .i64 (ek+if x=14 then 1 else 0)∧Came w0 B bd be bm cd ce (.slice (some ⟨b,off,none⟩) l.length cap) l.length W (Vm.uses s (x,y)) wx∧wx.heap[b6]? = some (.cells #[.int .i64 tk,.int .i64 lv] 303))
   case first =>
    by_cases x14:x=14
    ·subst x14;go_wp2
     go_meet
     exact⟨rfl,(Came.refl HG.o HS.o).more gw,grew_heap gw H6.o⟩
    by_cases x4:x=4∨x=5
    ·have b14:(x==14)=false:=by simpa using x14
     have hE:(ek+if x=14 then 1 else 0)=ek:=by rw[if_neg x14];omega
     rcases r4 x4 with rfl|rfl
     ·have hu:Vm.uses s (x,0)={ s with u0:=true }:=by unfold Vm.uses;rw[if_pos x4];rfl
      have HU:=hY hu;clear hu hE x14;rcases x4 with rfl|rfl
      all_goals
       go_wp2;refine wp_region_seq 7 Tryz.mixed (by kernel_rfl) (by kernel_rfl) ?_
       iterate 7
        apply Seq.val
        focus
         rintro w1 u ⟨R1,n1,rfl⟩ hF;simp[moreFacts,Fact.more,Oper.deps,Region.binds,List.filter_cons,World.more_drew] at hF;simp[putFacts,Oper.deps,Region.binds,List.filter_cons,Region.dstOf,Fact.at,Act.put,World.more_drew];go_wp2;exact⟨gw,rfl,_,_,rfl,rfl,rfl⟩
       rintro u w1 ⟨R1,n1,rfl⟩ hF;clear hF;simp[putFacts,Region.dstOf,Fact.at,Act.put,List.range_succ,World.more_drew];go_wp2
       go_meet
       rw[HU.o];exact⟨by simp,(Came.mk ((HG.o).set HS.o.hB _) HS.o.use0 ((Others.refl _ _ _ _).set (.inl rfl) _)).more gw,grew_heap gw (H6s.o _ _)⟩
     ·have hu:Vm.uses s (x,1)={ s with u1:=true }:=by unfold Vm.uses;rw[if_pos x4];rfl
      have HU:=hY hu;clear hu hE x14;rcases x4 with rfl|rfl
      all_goals
       go_wp2;refine wp_region_seq 7 Tryz.mixed (by kernel_rfl) (by kernel_rfl) ?_
       iterate 7
        apply Seq.val
        focus
         rintro w1 u ⟨R1,n1,rfl⟩ hF;simp[moreFacts,Fact.more,Oper.deps,Region.binds,List.filter_cons,World.more_drew] at hF;simp[putFacts,Oper.deps,Region.binds,List.filter_cons,Region.dstOf,Fact.at,Act.put,World.more_drew];go_wp2;exact⟨gw,rfl,_,_,rfl,rfl,rfl⟩
       rintro u w1 ⟨R1,n1,rfl⟩ hF;clear hF;simp[putFacts,Region.dstOf,Fact.at,Act.put,List.range_succ,World.more_drew];go_wp2
       go_meet
       rw[HU.o];exact⟨by simp,(Came.mk ((HG.o).set HS.o.hB _) HS.o.use1 ((Others.refl _ _ _ _).set (.inl rfl) _)).more gw,grew_heap gw (H6s.o _ _)⟩
    ·have b14:(x==14)=false:=by simpa using x14
     have b4:(x==4)=false:=by simp;omega
     have b5:(x==5)=false:=by simp;omega
     have hu:Vm.uses s (x,y)=s:=by unfold Vm.uses;rw[if_neg x4]
     clear x4 r4;go_wp2
     go_meet
     rw[hu];exact⟨by simp[x14],(Came.refl HG.o HS.o).more gw,grew_heap gw H6.o⟩
   case rest =>
    obtain⟨rfl,hcm,h6⟩:=hcut;have hek:0≤(ek+if x=14 then 1 else 0)∧(ek+if x=14 then 1 else 0)≤5:=by split<;>omega
    generalize hee:(ek+if x=14 then 1 else 0)=ee at *;have HM:=hY hcm;have H6':=hY h6;have hc5':=cell_of (o:=5) hcm.walk.cB;simp at hc5';have hp':=Pre.mk (heap_lt hcm.walk.cB);clear hcm h6;have hnl:=next_len l k (x,y);have hna:∀a∈Vm.next l k (x,y),k<a∧a≤l.length:=fun a ha=>⟨Vm.next_gt hk a ha,next_le hk a ha⟩
    have ltB:=heap_lt HM.o.walk.cB;have ltD:=heap_lt HM.o.walk.cD;have ltE:=heap_lt HM.o.walk.cE;have hN:=fun w hv=>next_any (.slice (some ⟨b,off,none⟩) l.length cap) l k hk hl HRT.o w hv
    rw[HXY.o] at hN;generalize Vm.next l k (x,y)=nx at *;have hdu:(Vm.uses s (x,y)).depth.getD k (-1)=dk:=by rw[(uses_len _ _).1];exact HDK.o
    generalize Vm.uses s (x,y)=su at *;have HN:=hY hN;have HNA:=hY hna;have HDU:=hY hdu;have HEE:=hY hee;clear hN hna hdu hee r4
    go_wp2_with (go_at_call 226;refine(HN.o _ (HV.o.grew (HM.o.grew.trans gw))).mono ?_;rintro e w1 ⟨u,rfl,hu,R7,N7,rfl⟩;obtain⟨au,cu,rfl⟩:=own_open hu;(have HU:=hY hu);clear hu)
    go_loopw [65] (fun i wr=>∃(j:Nat) (sj:Vm.Cst),j≤nx.length∧i = .int .i64 j∧Vm.comes l.length (dk-tk+lv) ee nx su=Vm.comes l.length (dk-tk+lv) ee (nx.drop j) sj∧sj.depth.getD k (-1)=dk∧Came w0 B bd be bm cd ce (.slice (some ⟨b,off,none⟩) l.length cap) l.length W sj wr∧OwnAt wc.heap.size 3 1 encZ wr (.slice au nx.length cu) nx∧wr.heap[b6]? = some (.cells #[.int .i64 tk,.int .i64 lv] 303)) (fun i _=>nx.length-(intOf i).toNat)
    case atStart=>exact⟨0,su,Nat.zero_le _,rfl,rfl,HDU.o,HM.o.more gw,HU.o.grew gw,grew_heap gw H6'.o⟩
    case round =>
     obtain⟨j,sj,hj,rfl,hcs,hdj,hcj,huj,h6j⟩:=hrel;by_cases hlt':j<nx.length
     ·obtain⟨bu,offu,rfl,hbu,hcu⟩:=own_cell huj j hlt';have hto:=HNA.o nx[j] (List.getElem_mem hlt');rw[comes_at hlt'] at hcs;have hcw:=cell_of (o:=0) hcj.walk.cB;have hpw:=Pre.mk (heap_lt hcj.walk.cB);have hpdw:=Pre.mk (heap_lt hcj.walk.cD);have hcdw:wr.cell? ⟨bd,k,none⟩=some (.int .i64 (sj.depth.getD k (-1))):=(cell_of hcj.walk.cD).trans (ints_get _ _ (by rw[hcj.walk.ld];exact hk) _);rw[hdj] at hcdw;simp at hcw;have k0':=cell_of (o:=0) h6j;have k1':=cell_of (o:=1) h6j;simp at k0' k1';have p6':=Pre.mk (heap_lt h6j);generalize nx[j]=pl at *;obtain⟨hto1,hto2⟩:=hto;have HCJ:=hY hcj;have HUJ:=hY huj;have H6J:=hY h6j;have HDJ:=hY hdj;have HCS:=hY hcs;have hne:k≠pl:=by omega
      clear hcj huj h6j hdj hcs;cases hcb:(Vm.come l.length sj pl (dk-tk+lv) ee).2
      all_goals
       have HCB:=hY hcb;clear hcb;go_wp2;refine wp_region_seq 17 Tryz.mixed (by kernel_rfl) (by kernel_rfl) ?_
       iterate 17
        apply Seq.val
        focus
         rintro w1 u ⟨R1,n1,rfl⟩ hF;simp[moreFacts,Fact.more,Oper.deps,Region.binds,List.filter_cons,World.more_drew] at hF;simp[putFacts,Oper.deps,Region.binds,List.filter_cons,Region.dstOf,Fact.at,Act.put,World.more_drew];go_wp2;exact⟨gw,rfl,_,_,rfl,rfl,rfl⟩
       rintro u w1 ⟨R1,n1,rfl⟩ hF;clear hF;simp[putFacts,Region.dstOf,Fact.at,Act.put,List.range_succ,World.more_drew]
       go_wp2_with (go_at_call 201;refine(come_any w0 _ B bd be bm cd ce _ l.length sj pl (dk-tk+lv) ee (HCJ.o.walk.grew gw) (HCJ.o.grew.trans gw) ⟨_,_,rfl⟩ hto2 hl).mono ?_;rintro e w1 ⟨rfl,hcm1⟩;rw[HCB.o];(have HC1:=hY hcm1);clear hcm1)
      ·go_ret;rw[HST.o,HCS.o,HCB.o,if_neg (by decide)];exact⟨rfl,HCJ.o.thn gw HC1.o⟩
      ·go_roundw
       case rel =>
        refine⟨j+1,_,by omega,by go_num,HCS.o.trans (if_pos HCB.o),(Vm.come_other hne).trans HDJ.o,HCJ.o.thn gw HC1.o,(HUJ.o.grew gw).same ?_,?_⟩
        ·intro q hq;obtain⟨hq1,_,hq2⟩:=HUJ.o.block hq;have hq3:=heap_lt hq2;exact(HC1.o.oth.2 q (by rw[World.more_size];omega) (by omega) (by omega) (by omega)).trans (World.heap_more R1 n1 q hq3)
        ·have hb3:=heap_lt H6J.o;have q1:B<W.heap.size:=hp;have q2:bd<W.heap.size:=hpd;have q3:be<W.heap.size:=hpe;exact(HC1.o.oth.2 b6 (by rw[World.more_size];omega) (by omega) (by omega) (by omega)).trans ((World.heap_more R1 n1 b6 hb3).trans H6J.o)
       case measure=>first|(simp[intOf];done)|(simp[intOf];omega)
     ·obtain rfl:j=nx.length:=by omega
      have HCJ:=hY hcj;have HCS:=hY hcs;clear hcj huj h6j hdj hcs;go_wp2;go_ret;rw[HST.o,HCS.o,List.drop_length];exact⟨rfl,HCJ.o⟩
end Go.Proofs.YtipgfjihdglocaaGreat
