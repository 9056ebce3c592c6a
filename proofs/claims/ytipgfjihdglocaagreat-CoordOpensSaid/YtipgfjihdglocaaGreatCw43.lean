import Derived.Test.YtipgfjihdglocaaGreatCw42
import Derived.Test.YtipgfjihdglocaaGreatCw11
set_option linter.unusedSimpArgs false
set_option linter.unusedVariables false
set_option maxRecDepth 100000
set_option maxHeartbeats 64000000
namespace Go.Proofs.YtipgfjihdglocaaGreat
open Go.RowKit Ga
def inR:Value→Option (DataW Unit×List MemPlace)
 | .int .i64 x=>some (.lit (.int .i64 x),[])
 | _=>none
theorem inR_inv(u:Value)(ps:List MemPlace)(v:Int)(h:inR u=some (.lit (.int .i64 v),ps)): u = .int .i64 v:=by
 unfold inR at h;split at h
 ·simp at h;rw[h.1]
 ·cases h
theorem int_law:Maps.Keyed Tryz.prog 3:=Maps.int_keyed Tryz.underlying3
def inOk(x:Int): Prop:=-9223372036854775808≤x∧x≤9223372036854775807
def intS:MSpec Int Int where
 kt:=3
 law:=int_law
 kenc:=.int .i64
 kinj:=fun a b h=>by cases h;rfl
 ok:=inOk
 key:=fun a h=>⟨_,Maps.keyOf_int_mk Tryz.underlying3 (WalkArith.wf_i64 h)⟩
 venc:=.int .i64
 dat:=fun x=>.lit (.int .i64 x)
 R:=inR
 rmk:=fun v=>rfl
 rinv:=inR_inv
structure BookAt (base:Nat) (W:World) (bk mp n:Nat) (ep:Int):Prop where
 blk:W.heap[bk]? = some (.cells #[.slice none 0 0,.map (some mp),.int .i64 ep] 155)
 map:∃m:List (Int×Int),MapAt intS W mp n m∧∀x∈m,x.1≤ep
 b0:base≤bk
 m0:base≤mp
theorem BookAt.grew{base:Nat}{W W':World}{bk mp n:Nat}{ep:Int}(h:BookAt base W bk mp n ep)(g:Grew W W'): BookAt base W' bk mp n ep:=by
 obtain⟨m,h1,h2⟩:=h.map;exact⟨grew_heap g h.blk,⟨m,h1.grew g,h2⟩,h.b0,h.m0⟩
theorem BookAt.leaves{T:List TypeId}{base:Nat}{W W':World}{bk mp n:Nat}{ep:Int}(h:BookAt base W bk mp n ep)(g:Leaves T W W')(hT:155∉T): BookAt base W' bk mp n ep:=by
 obtain⟨m,h1,h2⟩:=h.map;exact⟨g.at h.blk hT,⟨m,h1.leaves g,h2⟩,h.b0,h.m0⟩
theorem BookAt.ne{base:Nat}{W:World}{bk mp n:Nat}{ep:Int}(h:BookAt base W bk mp n ep){b n':Nat}{κ ν:Type}{S:MSpec κ ν}{m:List (κ×ν)}(hm:MapAt S W b n' m): bk≠b:=map_ne hm h.blk
theorem indexLn_none(W:World)(ax:Option Addr)(cx:Nat)(fv:Value): Calls Tryz.prog 188 #[.slice ax 0 cx,fv] W (Gives (.int .i64 (-1)) W):=by
 go_enter Tryz.func188,Tryz.ntmps188;go_wp2
 go_loopg [8] 0 (fun gg s8 wr=>s8 = .int .i64 0∧Hid (Grew W wr))
 case atStart=>exact⟨rfl,hY gw⟩
 case round =>
  obtain⟨rfl,HG⟩:=hrel;go_wp2;go_ret;exact⟨rfl,HG.o.trans gw⟩
theorem containsLn_none(W:World)(ax:Option Addr)(cx:Nat)(fv:Value): Calls Tryz.prog 145 #[.slice ax 0 cx,fv] W (Gives (.bool false) W):=by
 have HI:=hY fun W'=>indexLn_none W' ax cx fv
 go_enter Tryz.func145,Tryz.ntmps145
 go_wp2_with (go_at_call 188;refine(HI.o _).mono ?_;rintro e w1 ⟨rfl,R1,n1,rfl⟩)
 go_ret;refine⟨rfl,?_⟩;exact gw
section
variable {W:World} {base:Nat}
theorem bookCommit_new{w0:World}{bk mp n:Nat}{ep e0:Int}(h:BookAt w0.heap.size W bk mp n e0)(hg:Grew w0 W)(hn:n≤1000000)(hx:e0<ep)(he:inOk ep){ax:Option Addr}{cx:Nat}:
  Calls Tryz.prog 104 #[.pointer (some ⟨bk,0,none⟩),.int .i64 ep,.slice ax 0 cx] W fun e W'=>e = .returned (.int .i64 0)∧BookAt w0.heap.size W' bk mp (n+1) ep∧Grew w0 W'∧CL [155] W W'∧∀q,q<W.heap.size→q≠bk→q≠mp→W'.heap[q]? = W.heap[q]? :=by
 obtain⟨m,hm,hle⟩:=h.map;have H:=hY h;have HM:=hY hm;have HNO:Hid (∀z∈m,z.1≠ep):=hY fun z hz e=>by have:=hle z hz;omega
 have c0:=cell_of (o:=0) h.blk;have c1:=cell_of (o:=1) h.blk;have c2:=cell_of (o:=2) h.blk;have f0:=frozen_of (o:=0) h.blk;have f2:=frozen_of (o:=2) h.blk;simp at c0 c1 c2;have hb:Pre bk W:=heap_lt h.blk;have HG:=hY hg;have HE:=hY he;have HLE:=hY hle;have hm0:=h.m0;have hx2:¬ep≤e0:=by omega
 have HCN:=hY fun W'=>containsLn_none W' ax cx
 clear h hm hle hg he;cases ax
 all_goals
  go_enter Tryz.func104,Tryz.ntmps104
  go_wp2_with (go_at_call 145;refine(HCN.o _ _).mono ?_;rintro e w1 ⟨rfl,R1,n1,rfl⟩)
  refine wp_region_seq 10 Tryz.mixed (by kernel_rfl) (by kernel_rfl) ?_
  iterate 10
   apply Seq.val
   focus
    rintro w1 u ⟨R1,n1,rfl⟩ hF;simp[moreFacts,Fact.more,Oper.deps,Region.binds,List.filter_cons,World.more_drew] at hF;simp[putFacts,Oper.deps,Region.binds,List.filter_cons,Region.dstOf,Fact.at,Act.put,World.more_drew];go_wp2;exact⟨gw,rfl,_,_,rfl,rfl,rfl⟩
  rintro u w1 ⟨R1,n1,rfl⟩ hF;clear hF;simp[putFacts,Region.dstOf,Fact.at,Act.put,List.range_succ,World.more_drew];refine wpList_mapPut (S:=intS) (w0:=w0) (M:=m) rfl (.tmp 23) (.tmp 24) (.tmp 29) 153 rfl Tryz.underlying153 (HG.o.trans gw) hm0 rfl (HM.o.grew gw) (by unfold maxLen;omega) ep 0 HE.o HNO.o rfl rfl ?_;intro W7 h7 g7 k7;have hk7:Keep mp W W7:=Keep.trans (Keep.ofGrew gw) k7;have hne:=H.o.ne HM.o;have hB7:W7.heap[bk]? = _:=(hk7.2 bk hb hne).trans H.o.blk;have hG7:=g7;have H7:=hY h7;have G7:=hY hG7;have K7:=hY hk7;have B7:=hY hB7;have c0:=cell_of (o:=0) hB7;have c2:=cell_of (o:=2) hB7;have f0:=frozen_of (o:=0) hB7;have f2:=frozen_of (o:=2) hB7;simp at c0 c2;have hb7:Pre bk W7:=heap_lt hB7;clear h7 g7 k7 hk7 hB7 hG7
  go_wp2_with fail
  (try (simp[Result.andThen,Sem.run,pure,Oper.upon];go_wp2_with fail))
 all_goals
  go_ret;have e1:=set_blk (o:=0) (v:=.slice none 0 0) B7.out rfl;have e2:=set_blk (o:=2) (v:=.int .i64 ep) e1 rfl;have hl:=((Leaves.refl [155] W7).set (o:=0) (v:=.slice none 0 0) B7.out (by simp)).set (o:=2) (v:=.int .i64 ep) e1 (by simp);have hg:=(G7.out.set (o:=0) H.o.b0 (.slice none 0 0)).set (o:=2) H.o.b0 (.int .i64 ep);have hq:∀q,q≠bk→((W7.setCell ⟨bk,0,none⟩ (.slice none 0 0)).setCell ⟨bk,2,none⟩ (.int .i64 ep)).heap[q]? = W7.heap[q]? :=fun q h=>(set_other fun e=>h e.symm).trans (set_other fun e=>h e.symm)
  have hsz:W7.heap.size=((W7.setCell ⟨bk,0,none⟩ (.slice none 0 0)).setCell ⟨bk,2,none⟩ (.int .i64 ep)).heap.size:=by simp[World.size_setCell]
  clear e1;generalize (W7.setCell ⟨bk,0,none⟩ (.slice none 0 0)).setCell ⟨bk,2,none⟩ (.int .i64 ep)=WS at *;refine⟨rfl,⟨grew_heap gw e2,⟨_,(H7.o.leaves hl).grew gw,fun x hx9=>?_⟩,H.o.b0,H.o.m0⟩,hg.trans gw,((K7.out.cl HM.o.nocells).trans hl.cl).trans (CL.grew gw),fun q h1 h2 h3=>?_⟩
  ·rcases List.mem_cons.1 hx9 with rfl|hx9
   ·exact Int.le_refl _
   ·have:=HLE.o x hx9;omega
  ·exact((Grew.below (gw:Grew WS _)).block q (by rw[←hsz];exact Nat.lt_of_lt_of_le h1 K7.out.1)).trans ((hq q h2).trans (K7.out.2 q h1 h3))
end
end Go.Proofs.YtipgfjihdglocaaGreat
