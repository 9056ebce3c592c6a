import Derived.Test.YtipgfjihdglocaaGreatCw37
set_option linter.unusedSimpArgs false
set_option linter.unusedVariables false
set_option maxRecDepth 100000
set_option maxHeartbeats 64000000
namespace Go.Proofs.YtipgfjihdglocaaGreat
open Go.RowKit Ga
theorem join_nil(ps:List (List UInt8)): Lib.join ps []=ps.flatten:=by
 cases ps with
 | nil=>rfl
 |cons p r =>
  rw[Lib.join_cons,Lib.joinTail,List.flatten_cons];simp
structure DiskAt (W:World) (x:Nat) (last:List UInt8) (pv:Value) (ps:List (List UInt8)) (cap:Int):Prop where
 blk:W.heap[x]? = some (.cells #[.int .i64 (-1),.bool false,str last,pv,.int .i64 cap] 91)
 own:OwnAt 0 9 1 encS W pv ps
 n1:ps.length≤1
 len:(last++ps.flatten).length≤1000000
theorem DiskAt.grew{W W':World}{x:Nat}{last:List UInt8}{pv:Value}{ps:List (List UInt8)}{cap:Int}(h:DiskAt W x last pv ps cap)(g:Grew W W'): DiskAt W' x last pv ps cap:=⟨grew_heap g h.blk,h.own.grew g,h.n1,h.len⟩
theorem DiskAt.leaves{T:List TypeId}{W W':World}{x:Nat}{last:List UInt8}{cap:Int}(h:DiskAt W x last (.slice none 0 0) [] cap)(g:Leaves T W W')(hT:91∉T): DiskAt W' x last (.slice none 0 0) [] cap:=⟨g.at h.blk hT,OwnAt.nil _,h.n1,h.len⟩
section
variable {W:World} {x:Nat} {last:List UInt8} {pv:Value} {ps:List (List UInt8)} {cap:Int}
theorem diskAll_any(h:DiskAt W x last pv ps cap): Calls Tryz.prog 136 #[.pointer (some ⟨x,0,none⟩)] W (Gives (str (last++ps.flatten)) W):=by
 have h2:=cell_of (o:=2) h.blk;have h3:=cell_of (o:=3) h.blk;simp at h2 h3;have hb:Pre x W:=heap_lt h.blk;have HJ:=hY fun W' (g:Grew W W')=>join_any pv ps [] 0 W' (h.own.grew g) (by have:=h.n1;omega) (by rw[join_nil];have:=h.len;rw[List.length_append] at this;omega)
 rw[join_nil] at HJ;have hlen:=h.len;rw[List.length_append] at hlen;clear h;generalize ps.flatten=t at *;have e:=str_cat last t;have hsz:¬9223372036854775807<last.length+t.length:=by omega
 go_enter Tryz.func136,Tryz.ntmps136
 go_wp2_with fail
 refine wp_region_seq 10 Tryz.mixed (by kernel_rfl) (by kernel_rfl) ?_
 iterate 8
  apply Seq.val
  focus
   rintro w1 u ⟨R1,n1,rfl⟩ hF;simp[moreFacts,Fact.more,Oper.deps,Region.binds,List.filter_cons,World.more_drew] at hF;simp[putFacts,Oper.deps,Region.binds,List.filter_cons,Region.dstOf,Fact.at,Act.put,World.more_drew];go_wp2;exact⟨gw,rfl,_,_,rfl,rfl,rfl⟩
 apply Seq.val
 focus
  rintro w1 u ⟨R1,n1,rfl⟩ hF;simp[moreFacts,Fact.more,Oper.deps,Region.binds,List.filter_cons,World.more_drew] at hF;simp[putFacts,Oper.deps,Region.binds,List.filter_cons,Region.dstOf,Fact.at,Act.put,World.more_drew]
  go_wp2_with (first
   | (go_at_call 181;refine(HJ.o _ gw).mono ?_;rintro e w1 ⟨rfl,R3,n3,rfl⟩)
   )
  exact⟨gw,rfl,_,_,rfl,rfl,rfl⟩
 iterate 1
  apply Seq.val
  focus
   rintro w1 u ⟨R1,n1,rfl⟩ hF;simp[moreFacts,Fact.more,Oper.deps,Region.binds,List.filter_cons,World.more_drew] at hF;simp[putFacts,Oper.deps,Region.binds,List.filter_cons,Region.dstOf,Fact.at,Act.put,World.more_drew];go_wp2;exact⟨gw,rfl,_,_,rfl,rfl,rfl⟩
 rintro u w1 ⟨R1,n1,rfl⟩ hF;clear hF;simp[putFacts,Region.dstOf,Fact.at,Act.put,List.range_succ,World.more_drew];go_wp2;go_ret;exact⟨by simp[e],gw⟩
theorem diskWrong_any(h:DiskAt W x last pv ps cap): Calls Tryz.prog 57 #[.pointer (some ⟨x,0,none⟩)] W (Gives (.int .i64 0) W):=by
 have h1:=cell_of (o:=1) h.blk;simp at h1;clear h;go_enter Tryz.func57,Tryz.ntmps57;go_wp2;go_ret;refine⟨rfl,?_⟩;exact gw
theorem diskBurn_any(h:DiskAt W x last pv ps cap): Calls Tryz.prog 59 #[.pointer (some ⟨x,0,none⟩)] W (Gives (.bool true) W):=by
 have h0:=cell_of (o:=0) h.blk;simp at h0;clear h;go_enter Tryz.func59,Tryz.ntmps59;go_wp2;go_ret;refine⟨rfl,?_⟩;exact gw
theorem diskLen_any(h:DiskAt W x last pv ps cap): Calls Tryz.prog 119 #[.pointer (some ⟨x,0,none⟩)] W (Gives (.int .i64 ((last++ps.flatten).length:Nat)) W):=by
 have HA:=hY (diskAll_any h);have hl:=h.len;clear h;generalize last++ps.flatten=t at *;have hs:(t.length:Int)≤9223372036854775807:=by omega
 go_enter Tryz.func119,Tryz.ntmps119
 go_wp2_with (go_at_call 136;refine HA.o.mono ?_;rintro e w1 ⟨rfl,R3,n3,rfl⟩)
 go_ret;exact⟨by simp,gw⟩
theorem diskRead_any(h:DiskAt W x last pv ps cap): Calls Tryz.prog 86 #[.pointer (some ⟨x,0,none⟩)] W (Gives (.tuple #[str (last++ps.flatten),.int .i64 0]) W):=by
 have HA:=hY fun W' (g:Grew W W')=>diskAll_any (h.grew g)
 have HW:=hY (diskWrong_any h);clear h;generalize last++ps.flatten=t at *;go_enter Tryz.func86,Tryz.ntmps86
 go_wp2_with (first
  | (go_at_call 57;refine HW.o.mono ?_;rintro e w1 ⟨rfl,R1,n1,rfl⟩)
  | (go_at_call 136;refine(HA.o _ gw).mono ?_;rintro e w1 ⟨rfl,R3,n3,rfl⟩))
 go_ret2;exact⟨rfl,gw⟩
theorem diskRoom_any(h:DiskAt W x last pv ps cap)(hc:0≤cap∧cap≤16777216): Calls Tryz.prog 58 #[.pointer (some ⟨x,0,none⟩)] W (Gives (.int .i64 (cap-((last++ps.flatten).length:Nat))) W):=by
 have HA:=hY fun W' (g:Grew W W')=>diskLen_any (h.grew g)
 have h4:=cell_of (o:=4) h.blk;simp at h4;have hb:Pre x W:=heap_lt h.blk;have hl:=h.len;clear h;generalize (last++ps.flatten).length=n at *;go_enter Tryz.func58,Tryz.ntmps58
 go_wp2_with fail
 refine wp_region_seq 7 Tryz.mixed (by kernel_rfl) (by kernel_rfl) ?_
 iterate 5
  apply Seq.val
  focus
   rintro w1 u ⟨R1,n1,rfl⟩ hF;simp[moreFacts,Fact.more,Oper.deps,Region.binds,List.filter_cons,World.more_drew] at hF;simp[putFacts,Oper.deps,Region.binds,List.filter_cons,Region.dstOf,Fact.at,Act.put,World.more_drew];go_wp2;exact⟨gw,rfl,_,_,rfl,rfl,rfl⟩
 apply Seq.val
 focus
  rintro w1 u ⟨R1,n1,rfl⟩ hF;simp[moreFacts,Fact.more,Oper.deps,Region.binds,List.filter_cons,World.more_drew] at hF;simp[putFacts,Oper.deps,Region.binds,List.filter_cons,Region.dstOf,Fact.at,Act.put,World.more_drew]
  go_wp2_with (first
   | (go_at_call 119;refine(HA.o _ gw).mono ?_;rintro e w1 ⟨rfl,R3,n3,rfl⟩)
   )
  exact⟨gw,rfl,_,_,rfl,rfl,rfl⟩
 iterate 1
  apply Seq.val
  focus
   rintro w1 u ⟨R1,n1,rfl⟩ hF;simp[moreFacts,Fact.more,Oper.deps,Region.binds,List.filter_cons,World.more_drew] at hF;simp[putFacts,Oper.deps,Region.binds,List.filter_cons,Region.dstOf,Fact.at,Act.put,World.more_drew];go_wp2;exact⟨gw,rfl,_,_,rfl,rfl,rfl⟩
 rintro u w1 ⟨R1,n1,rfl⟩ hF;clear hF;simp[putFacts,Region.dstOf,Fact.at,Act.put,List.range_succ,World.more_drew];go_wp2;go_ret;exact⟨by first|rfl|(congr 1;omega)|simp,gw⟩
end
theorem diskAppend_any {W : World} {x:Nat} {last:List UInt8} {cap:Int} (w0:World) (s:List UInt8) (h:DiskAt W x last (.slice none 0 0) [] cap) (hg:Grew w0 W) (hx:w0.heap.size≤x) (hc:0≤cap∧cap≤16777216) (hs:s≠[]) (hroom:(s.length:Int)≤cap-last.length) (hl:last.length+s.length≤1000000) :
  Calls Tryz.prog 20 #[.pointer (some ⟨x,0,none⟩),.string ⟨s.toArray⟩] W fun e W'=>e = .returned (.int .i64 0)∧(∃pv,DiskAt W' x last pv [s] cap)∧Leaves [91] W W'∧Grew w0 W':=by
 have HW:=hY (diskWrong_any h);have HR:=hY fun W' (g:Grew W W')=>diskRoom_any (h.grew g) hc
 have HB:=hY fun W' (g:Grew W W')=>diskBurn_any (h.grew g)
 have h3:=cell_of (o:=3) h.blk;simp at h3;have hf3:=frozen_of (o:=3) h.blk;have hb:Pre x W:=heap_lt h.blk;have H:=hY h;rw[List.flatten_nil,List.append_nil] at HR;have hsz:(s.length:Int)≤9223372036854775807:=by omega
 have hroom2:¬(cap-(last.length:Int)<(s.length:Int)):=by omega
 have hne : s.isEmpty = false := by cases s;· exact absurd rfl hs
                                    ·rfl
 have HS:=hY hs;have HL:=hY hl;clear h hs hl hroom hc;have HG:=hY hg;have HX:=hY hx;clear hg hx;go_enter Tryz.func20,Tryz.ntmps20
 go_wp2_with (first
  | (go_at_call 57;refine HW.o.mono ?_;rintro e w1 ⟨rfl,R1,n1,rfl⟩)
  | (go_at_call 58;refine(HR.o _ gw).mono ?_;rintro e w1 ⟨rfl,R2,n2,rfl⟩)
  | (go_at_call 59;refine(HB.o _ gw).mono ?_;rintro e w1 ⟨rfl,R3,n3,rfl⟩)
  | (at_builtin;go_loud (refine wpList_ownK (w0:=w0) rfl (.tmp 30) (.tmp 32) 84 _ _ _ _ [s] rfl Tryz.underlying84 infoStr rfl (by decide) encS_len encS_one rfl (OwnAt.nil _) (HG.o.trans gw) rfl (str_at1 _ _ _ _ rfl (by simp[go_sem])) (by simp) (by decide) (by simp) ?_);intro v7 W7 hA;obtain⟨b9,c9,rfl⟩:=own_some' hA.2.1 (by simp);(have b7:=app_blk (W:=W) hA gw H.o.blk (by intro h;cases h));(have HL7:=hY (Leaves.app0 (T:=[91]) (W:=W) hA gw));(have HA7:=hY hA);(have B7:=hY b7);(have c7:=cell_of (o:=3) b7);(have f7:=frozen_of (o:=3) b7);(have p7:=Pre.mk (heap_lt b7));simp at c7;clear hA b7))
 go_ret;refine⟨rfl,⟨.slice (some ⟨b9,0,none⟩) 1 c9,?_⟩,?_,?_⟩
 ·have hl7:Leaves [91] W7 (W7.setCell ⟨x,3,none⟩ (.slice (some ⟨b9,0,none⟩) 1 c9)):=(Leaves.refl _ _).set B7.out (by simp);exact⟨set_blk B7.out rfl,hl7.own (OwnAt.low HA7.o.2.1 (Nat.zero_le _)) (by decide),by simp,by simpa using HL.o⟩
 ·exact Leaves.set (HL7.o) B7.out (by simp)
 ·exact Grew.set HA7.o.1 HX.o _
theorem diskSync_any{W:World}{x:Nat}{last:List UInt8}{pv:Value}{ps:List (List UInt8)}{cap:Int}(w0:World)(h:DiskAt W x last pv ps cap)(hg:Grew w0 W)(hx:w0.heap.size≤x):
  Calls Tryz.prog 89 #[.pointer (some ⟨x,0,none⟩)] W fun e W'=>e = .returned (.int .i64 0)∧DiskAt W' x (last++ps.flatten) (.slice none 0 0) [] cap∧Leaves [91] W W'∧Grew w0 W':=by
 have HW:=hY (diskWrong_any h);have HA:=hY fun W' (g:Grew W W')=>diskAll_any (h.grew g)
 have HB:=hY fun W' (g:Grew W W')=>diskBurn_any (h.grew g)
 have h2:=cell_of (o:=2) h.blk;have h3:=cell_of (o:=3) h.blk;simp at h2 h3;have hf2:=frozen_of (o:=2) h.blk;have hf3:=frozen_of (o:=3) h.blk;have hb:Pre x W:=heap_lt h.blk;have hB:=hY h.blk;have hL:=hY h.len;clear h;have HG:=hY hg;have HX:=hY hx;clear hg hx;generalize last++ps.flatten=t at *;go_enter Tryz.func89,Tryz.ntmps89
 go_wp2_with (first
  | (go_at_call 57;refine HW.o.mono ?_;rintro e w1 ⟨rfl,R1,n1,rfl⟩)
  | (go_at_call 59;refine(HB.o _ gw).mono ?_;rintro e w1 ⟨rfl,R2,n2,rfl⟩)
  | (go_at_call 136;refine(HA.o _ gw).mono ?_;rintro e w1 ⟨rfl,R3,n3,rfl⟩))
 go_ret;have b1:=set_blk (o:=2) (v:=.string ⟨t.toArray⟩) hB.out rfl;have b2:=set_blk (o:=3) (v:=.slice none 0 0) b1 rfl;have hl:=((Leaves.refl [91] W).set (o:=2) (v:=.string ⟨t.toArray⟩) hB.out (by simp)).set (o:=3) (v:=.slice none 0 0) b1 (by simp);have hg:=(HG.o.set (o:=2) HX.o (.string ⟨t.toArray⟩)).set (o:=3) HX.o (.slice none 0 0);exact⟨rfl,⟨grew_heap gw b2,OwnAt.nil _,by simp,by simpa using hL.out⟩,hl.trans (Leaves.grew gw),hg.trans gw⟩
theorem diskNew_any(cap:Int)(w:World)(hc:0≤cap∧cap≤16777216): Calls Tryz.prog 9 #[.int .i64 cap] w fun e w'=>∃x,e = .returned (.pointer (some ⟨x,0,none⟩))∧w.heap.size≤x∧DiskAt w' x [] (.slice none 0 0) [] cap∧Grew w w':=by
 go_enter Tryz.func9,Tryz.ntmps9;go_wp2;go_ret;refine⟨_,rfl,Nat.le_refl _,⟨?_,OwnAt.nil _,by simp,by simp⟩,gw⟩;rw[heap_new_at _ _ _ rfl,show min (max cap 0) 16777216=cap by omega]
theorem str_at2(W:World)(x y:List UInt8)(t:TypeId){c:Array Value}{n cap:Nat}{v:Value}(hc:c=#[.string ⟨x.toArray⟩,.string ⟨y.toArray⟩])(hv:v = .slice (some ⟨n,0,none⟩) 2 cap)(hn:n=W.heap.size): RowsAt 1 encS (W.alloc (.cells c t)) v [x,y]:=by
 subst hc hv;exact RowsAt.fresh (l:=[x,y]) (ls:=2) (c:=[.string ⟨x.toArray⟩,.string ⟨y.toArray⟩]) rfl (by simp[maxLen]) encS_len hn rfl
theorem sumFrame_any(s:List UInt8)(w:World)(hs:s.length≤900000): Calls Tryz.prog 95 #[.string ⟨s.toArray⟩] w fun e w'=>∃f:List UInt8,f.length=s.length+8∧Gives (str f) w e w':=by
 have hsz:(s.length:Int)≤9223372036854775807:=by omega
 have HS:=hY hs;have HF:=hY fun n W=>sumFour_any n W
 go_enter Tryz.func95,Tryz.ntmps95
 go_wp2_with (go_at_call 147;refine(HF.o _ _).mono ?_;rintro e w1 ⟨b,hb,rfl,R3,n3,rfl⟩)
 refine(sumOf_any _ [b,s] _ (str_at2 _ _ _ _ rfl rfl (by simp[go_sem])) (by have:=HS.o;intro l hl;simp at hl;rcases hl with rfl|rfl<;>omega)).mono ?_
 rintro e w1 ⟨y,rfl,R4,n4,rfl⟩;have HB:=hY hb
 go_wp2_with (go_at_call 147;refine(HF.o _ _).mono ?_;rintro e w1 ⟨b2,hb2,rfl,R5,n5,rfl⟩;(have e1:=str_cat b b2);(have e2:=str_cat (b++b2) s);(have q1:¬9223372036854775807<b.length+b2.length:=by omega);(have q2:¬9223372036854775807<(b++b2).length+s.length:=by rw[List.length_append];omega))
 go_ret;exact⟨b++(b2++s),by simp;omega,rfl,gw⟩
theorem sumOpen_nil(w:World): Calls Tryz.prog 137 #[.string ⟨#[]⟩] w (Gives (.tuple #[.string ⟨#[]⟩,.string ⟨#[]⟩,.int .i64 3]) w):=by
 go_enter Tryz.func137,Tryz.ntmps137;go_wp2;exact bodyPost_ret (v:=.tuple #[.string ⟨#[]⟩,.string ⟨#[]⟩,.int .i64 3]) (by simp[results,Tryz.results137,go_sem]) rfl ⟨rfl,gw⟩
theorem logScan_nil(w:World): Calls Tryz.prog 87 #[.string ⟨#[]⟩] w (Gives (.tuple #[.slice none 0 0,.int .i64 0]) w):=by
 go_enter Tryz.func87,Tryz.ntmps87;go_wp2;refine wp_scope_jumps1' 0 (fun _ _=>False) (fun _ _=>0) rfl (fun _ _ h=>h.elim) fun _=>?_
 go_wp2;refine wp_label ?_
 go_wp2_with (go_at_call 137;refine(sumOpen_nil _).mono ?_;rintro e w1 ⟨rfl,R3,n3,rfl⟩)
 go_ret2;exact⟨rfl,gw⟩
structure LogAt (base:Nat) (W:World) (y x:Nat) (av:Value) (ls:List (List UInt8)):Prop where
 blk:W.heap[y]? = some (.cells #[.pointer (some ⟨x,0,none⟩),av] 144)
 own:OwnAt base 9 1 encS W av ls
theorem logOpen_nil{W:World}{x:Nat}{cap:Int}(w0:World)(h:DiskAt W x [] (.slice none 0 0) [] cap)(hg:Grew w0 W)(hx:w0.heap.size≤x): Calls Tryz.prog 33 #[.pointer (some ⟨x,0,none⟩)] W fun e W'=>∃y,e = .returned (.tuple #[.pointer (some ⟨y,0,none⟩),.int .i64 0])∧w0.heap.size≤y∧LogAt w0.heap.size W' y x (.slice none 0 0) []∧DiskAt W' x [] (.slice none 0 0) [] cap∧Leaves [91] W W'∧Grew w0 W':=by
 have HR:=hY (diskRead_any h);have HS:=hY fun W' (g:Grew W W')=>diskSync_any w0 (h.grew g) (hg.trans g) hx
 clear h hg hx;go_enter Tryz.func33,Tryz.ntmps33
 go_wp2_with (first
  | (go_at_call 86;refine HR.o.mono ?_;rintro e w1 ⟨rfl,R1,n1,rfl⟩)
  | (go_at_call 87;refine(logScan_nil _).mono ?_;rintro e w1 ⟨rfl,R2,n2,rfl⟩)
  | (go_at_call 89;refine(HS.o _ gw).mono ?_;rintro e w1 ⟨rfl,hd,hl,hg⟩;(have HD:=hY hd);(have HL:=hY hl);(have HG:=hY hg);clear hd hl hg))
 go_ret2;exact⟨_,rfl,HG.o.below.size,⟨heap_new_at _ _ _ rfl,OwnAt.nil _⟩,HD.o.grew gw,(Leaves.grew gw).trans (HL.o.trans (Leaves.grew gw)),HG.o.trans gw⟩
def IsFr(n:Nat)(v:Value)(w:World): Prop:=∃f:List UInt8,v=str f∧f.length=n
theorem IsFr.st(n:Nat): ∀v w w',IsFr n v w→Grew w w'→IsFr n v w':=fun _ _ _ h _=>h
theorem logAppend_any{W:World}{y x:Nat}{av:Value}{ls:List (List UInt8)}{last:List UInt8}{cap:Int}(w0:World)(s:List UInt8)(h:LogAt w0.heap.size W y x av ls)(hd:DiskAt W x last (.slice none 0 0) [] cap)(hg:Grew w0 W)(hx:w0.heap.size≤x)(hy:w0.heap.size≤y)(hc:0≤cap∧cap≤16777216)(hroom:(s.length:Int)+8≤cap-last.length)(hl:last.length+s.length≤900000)(hn:ls.length≤1000):
  Calls Tryz.prog 37 #[.pointer (some ⟨y,0,none⟩),.string ⟨s.toArray⟩] W fun e W'=>e = .returned (.int .i64 0)∧(∃av',LogAt w0.heap.size W' y x av' (ls++[s]))∧(∃last',DiskAt W' x last' (.slice none 0 0) [] cap∧last'.length=last.length+s.length+8)∧Leaves [91,144,9] W W'∧Grew w0 W':=by
 have H:=hY h;have HD:=hY hd;have h0:=cell_of (o:=0) h.blk;have h1:=cell_of (o:=1) h.blk;simp at h0 h1;have hb:Pre y W:=heap_lt h.blk;have hsz:(s.length:Int)≤9223372036854775807:=by omega
 have hmost:¬((1048576:Int)<s.length):=by omega
 have HF:=hY fun W=>sumFrame_any s W (by omega)
 have HA:=hY fun(f:List UInt8) (hf:f.length=s.length+8) W' (g:Grew W W')=>diskAppend_any w0 f (hd.grew g) (hg.trans g) hx hc (by intro e;rw[e] at hf;simp at hf) (by rw[hf];omega) (by omega)
 have HG:=hY hg;have HX:=hY hx;have HY:=hY hy;have HL:=hY hl;have HN:=hY hn;clear h hd hg hx hy hc hroom hl hn;go_enter Tryz.func37,Tryz.ntmps37
 go_wp2_with fail
 refine wp_region_seq 6 Tryz.mixed (by kernel_rfl) (by kernel_rfl) ?_
 iterate 5
  apply Seq.val
  focus
   rintro w1 u ⟨R1,n1,rfl⟩ hF;simp[moreFacts,Fact.more,Oper.deps,Region.binds,List.filter_cons,World.more_drew] at hF;simp[putFacts,Oper.deps,Region.binds,List.filter_cons,Region.dstOf,Fact.at,Act.put,World.more_drew];go_wp2;exact⟨gw,rfl,_,_,rfl,rfl,rfl⟩
 apply Seq.of (IsFr (s.length+8)) (IsFr.st _)
 focus
  rintro w1 u ⟨R1,n1,rfl⟩ hF;simp[moreFacts,Fact.more,Oper.deps,Region.binds,List.filter_cons,World.more_drew] at hF;simp[putFacts,Oper.deps,Region.binds,List.filter_cons,Region.dstOf,Fact.at,Act.put,World.more_drew]
  go_wp2_with (first
   | (go_at_call 95;refine(HF.o _).mono ?_;rintro e w2 ⟨f,hf,rfl,R3,n3,rfl⟩)
   )
  exact⟨gw,rfl,_,_,rfl,rfl,⟨f,rfl,hf⟩⟩
 rintro u w1 ⟨R1,n1,rfl⟩ hF;simp[moreFacts,apartFacts,Fact.more,Fact.isNew,List.range_succ,World.more_drew] at hF;obtain⟨f,hu,hf⟩:=hF;simp[putFacts,Region.dstOf,Fact.at,Act.put,List.range_succ,World.more_drew];rw[hu];clear hu h0 h1 hb;have HFL:=hY hf;clear hf
 go_wp2_with (first
  | (go_at_call 20;refine(HA.o f HFL.o _ gw).mono ?_;rintro e wA ⟨rfl,⟨pv,hdA⟩,hlA,hgA⟩;(have hl1:Leaves [91] W wA:=(Leaves.grew gw).trans hlA);(have bA:=hl1.at H.o.blk (by decide));(have a0:=cell_of (o:=0) bA);simp at a0;(have pA:=Pre.mk (heap_lt bA));(have HDA:=hY hdA);(have HLA:=hY hl1);(have HGA:=hY hgA);clear hdA hlA hgA hl1 bA)
  | (go_at_call 89;refine(diskSync_any w0 (HDA.o.grew gw) (HGA.o.trans gw) HX.o).mono ?_;rintro e wB ⟨rfl,hdB,hlB,hgB⟩;clear a0 pA;(have hl2:Leaves [91] W wB:=HLA.o.trans ((Leaves.grew gw).trans hlB));(have bB:=hl2.at H.o.blk (by decide));(have c1:=cell_of (o:=1) bB);simp at c1;(have HBB:=hY bB);(have pB:=Pre.mk (heap_lt bB));(have HDB:=hY hdB);(have HLB:=hY hl2);(have HGB:=hY hgB);clear hdB hlB hgB hl2 bB)
  | (at_builtin;go_loud (refine wpList_ownK (w0:=w0) rfl (.tmp 36) (.tmp 38) 84 _ _ _ _ [s] rfl Tryz.underlying84 infoStr rfl (by decide) encS_len encS_one rfl (OwnAt.grew (HLB.o.own H.o.own (by decide)) gw) (HGB.o.trans gw) rfl (str_at1 _ _ _ _ rfl (by simp[go_sem])) (by have:=HN.o;simp;omega) (by decide) (by simp) ?_);intro v7 W7 hA;obtain⟨b9,c9,rfl⟩:=own_some' hA.2.1 (by simp);(have b7:=app_blk (W:=wB) hA gw HBB.o ((HLB.o.own H.o.own (by decide)).other HBB.o (by decide)));(have HL7:=hY (Leaves.app (T:=[91,144,9]) ((HLB.o.mono (by simp)).trans (Leaves.grew gw)) (OwnAt.grew (HLB.o.own H.o.own (by decide)) gw) hA (by simp)));(have HS7:=hY (Leaves.app (T:=[9]) (W:=wB) (Leaves.grew gw) (OwnAt.grew (HLB.o.own H.o.own (by decide)) gw) hA (by simp)));(have HA7:=hY hA);(have B7:=hY b7);(have c7:=cell_of (o:=1) b7);(have f7:=frozen_of (o:=1) b7);(have p7:=Pre.mk (heap_lt b7));simp at c7;clear hA b7))
 go_ret;have e7:=set_blk (o:=1) (v:=.slice (some ⟨b9,0,none⟩) (ls.length+1) c9) B7.out rfl;have hl7:Leaves [144] W7 (W7.setCell ⟨y,1,none⟩ (.slice (some ⟨b9,0,none⟩) (ls.length+1) c9)):=(Leaves.refl _ _).set B7.out (by simp);have ho:=HA7.o.2.1;rw[List.length_append] at ho;exact⟨rfl,⟨_,e7,hl7.own ho (by decide)⟩,⟨_,((HDB.o.leaves HS7.o (by decide)).leaves hl7 (by decide)),by simp[HFL.o];omega⟩,HL7.o.trans (hl7.mono (by simp)),Grew.set HA7.o.1 HY.o _⟩
theorem logLen_any{W:World}{base y x:Nat}{av:Value}{ls:List (List UInt8)}(h:LogAt base W y x av ls): Calls Tryz.prog 34 #[.pointer (some ⟨y,0,none⟩)] W (Gives (.int .i64 ls.length) W):=by
 have h1:=cell_of (o:=1) h.blk;simp at h1;obtain⟨a,cap,rfl,hn,-⟩:=(OwnAt.rows h.own encS_len).open1;clear h;go_enter Tryz.func34,Tryz.ntmps34;go_wp2;go_ret;refine⟨rfl,?_⟩;exact gw
theorem cloneStr_any{W:World}{base:Nat}{v:Value}{ls:List (List UInt8)}(h:OwnAt base 9 1 encS W v ls)(hn:ls.length≤1000000): Calls Tryz.prog 96 #[v] W fun e W'=>∃v',e = .returned v'∧OwnAt W.heap.size 9 1 encS W' v' ls∧Grew W W':=by
 rcases h.form with ⟨rfl,rfl⟩|⟨b,cap,rfl,-,-,-⟩
 ·refine(Tryz.slices_Clone_string_nil 0 0 W).mono ?_;rintro e W' ⟨rfl,rfl⟩;exact⟨_,rfl,OwnAt.nil _,Grew.refl _⟩
 ·have hr:=h.rows encS_len
  have hc:∀j,j<(ls.map fun l=>(⟨l.toArray⟩:ByteArray)).length→W.cell? ⟨b,0+j,none⟩=some (.string ((ls.map fun l=>(⟨l.toArray⟩:ByteArray)).getD j ByteArray.empty)):=by
   intro j hj;rw[List.length_map] at hj;obtain⟨a,cap',hv,-,hx⟩:=hr;obtain⟨b',off,hab,hx⟩:=hx (by intro e;subst e;simp at hj);cases hv;cases hab;have:=hx j ls[j] (List.getElem?_eq_getElem hj) 0 (.string ⟨ls[j].toArray⟩) rfl;rw[List.getD_eq_getElem?_getD,List.getElem?_map,List.getElem?_eq_getElem hj];simpa using this
  refine(Tryz.slices_Clone_string b 0 ls.length cap (ls.map fun l=>(⟨l.toArray⟩:ByteArray)) W (by simp) (by omega) hc).mono ?_;rintro e W' ⟨v',rfl,h1,-,h2⟩;refine⟨v',rfl,?_,Grew.ofBelow h2⟩;unfold OwnAt;rw[flatMap_encS]
  have e2:((ls.map fun l=>(⟨l.toArray⟩:ByteArray)).take ls.length).map Value.string=ls.map fun x=>Value.string ⟨x.toArray⟩:=by
   rw[List.take_of_length_le (by simp),List.map_map];rfl
  rw[e2] at h1;exact h1
theorem logAll_any{W:World}{base y x:Nat}{av:Value}{ls:List (List UInt8)}(h:LogAt base W y x av ls)(hn:ls.length≤1000000): Calls Tryz.prog 39 #[.pointer (some ⟨y,0,none⟩)] W fun e W'=>∃v,e = .returned v∧OwnAt W.heap.size 9 1 encS W' v ls∧Grew W W':=by
 have h1:=cell_of (o:=1) h.blk;simp at h1;have HC:=hY (cloneStr_any h.own hn);clear h;go_enter Tryz.func39,Tryz.ntmps39
 go_wp2_with (go_at_call 96;refine HC.o.mono ?_;rintro e w1 ⟨v,rfl,ho,R3,n3,rfl⟩;(have HO:=hY ho);clear ho)
 go_ret;exact⟨v,rfl,HO.o,gw⟩
end Go.Proofs.YtipgfjihdglocaaGreat
