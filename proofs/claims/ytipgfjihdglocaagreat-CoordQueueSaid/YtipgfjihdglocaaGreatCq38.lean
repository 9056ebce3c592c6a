import Derived.Test.YtipgfjihdglocaaGreatCq37
set_option linter.unusedSimpArgs false
set_option linter.unusedVariables false
set_option maxRecDepth 100000
set_option maxHeartbeats 64000000
namespace Go.Proofs.YtipgfjihdglocaaGreat
open Go.RowKit Ga
theorem join_nil(ps:List (List UInt8)): Lib.join ps []=ps.flatten:=by
 cases ps with
 | nil=>rfl
 |cons p r =>
  rw[Lib.join_cons,Lib.joinTail,List.flatten_cons];simp
structure DiskAt (W:World) (x:Nat) (last:List UInt8) (pv:Value) (ps:List (List UInt8)) (cap:Int):Prop where
 blk:W.heap[x]? = some (.cells #[.int .i64 (-1),.bool false,str last,pv,.int .i64 cap] 91)
 own:OwnAt 0 9 1 encS W pv ps
 n1:ps.length≤1
 len:(last++ps.flatten).length≤1000000
theorem DiskAt.grew{W W':World}{x:Nat}{last:List UInt8}{pv:Value}{ps:List (List UInt8)}{cap:Int}(h:DiskAt W x last pv ps cap)(g:Grew W W'): DiskAt W' x last pv ps cap:=⟨grew_heap g h.blk,h.own.grew g,h.n1,h.len⟩
theorem DiskAt.leaves{T:List TypeId}{W W':World}{x:Nat}{last:List UInt8}{cap:Int}(h:DiskAt W x last (.slice none 0 0) [] cap)(g:Leaves T W W')(hT:91∉T): DiskAt W' x last (.slice none 0 0) [] cap:=⟨g.at h.blk hT,OwnAt.nil _,h.n1,h.len⟩
section
variable {W:World} {x:Nat} {last:List UInt8} {pv:Value} {ps:List (List UInt8)} {cap:Int}
theorem diskAll_any(h:DiskAt W x last pv ps cap): Calls Tryz.prog 136 #[.pointer (some ⟨x,0,none⟩)] W (Gives (str (last++ps.flatten)) W):=by
 have h2:=cell_of (o:=2) h.blk;have h3:=cell_of (o:=3) h.blk;simp at h2 h3;have hb:Pre x W:=heap_lt h.blk;have HJ:=hY fun W' (g:Grew W W')=>join_any pv ps [] 0 W' (h.own.grew g) (by have:=h.n1;omega) (by rw[join_nil];have:=h.len;rw[List.length_append] at this;omega)
 rw[join_nil] at HJ;have hlen:=h.len;rw[List.length_append] at hlen;clear h;generalize ps.flatten=t at *;have e:=str_cat last t;have hsz:¬9223372036854775807<last.length+t.length:=by omega
 go_enter Tryz.func136,Tryz.ntmps136
 go_wp2_with fail
 refine wp_region_seq 10 Tryz.mixed (by kernel_rfl) (by kernel_rfl) ?_
 iterate 8
  apply Seq.val
  focus
   rintro w1 u ⟨R1,n1,rfl⟩ hF;simp[moreFacts,Fact.more,Oper.deps,Region.binds,List.filter_cons,World.more_drew] at hF;simp[putFacts,Oper.deps,Region.binds,List.filter_cons,Region.dstOf,Fact.at,Act.put,World.more_drew];go_wp2;exact⟨gw,rfl,_,_,rfl,rfl,rfl⟩
 apply Seq.val
 focus
  rintro w1 u ⟨R1,n1,rfl⟩ hF;simp[moreFacts,Fact.more,Oper.deps,Region.binds,List.filter_cons,World.more_drew] at hF;simp[putFacts,Oper.deps,Region.binds,List.filter_cons,Region.dstOf,Fact.at,Act.put,World.more_drew]
  go_wp2_with (first
   | (go_at_call 181;refine(HJ.o _ gw).mono ?_;rintro e w1 ⟨rfl,R3,n3,rfl⟩)
   )
  exact⟨gw,rfl,_,_,rfl,rfl,rfl⟩
 iterate 1
  apply Seq.val
  focus
   rintro w1 u ⟨R1,n1,rfl⟩ hF;simp[moreFacts,Fact.more,Oper.deps,Region.binds,List.filter_cons,World.more_drew] at hF;simp[putFacts,Oper.deps,Region.binds,List.filter_cons,Region.dstOf,Fact.at,Act.put,World.more_drew];go_wp2;exact⟨gw,rfl,_,_,rfl,rfl,rfl⟩
 rintro u w1 ⟨R1,n1,rfl⟩ hF;clear hF;simp[putFacts,Region.dstOf,Fact.at,Act.put,List.range_succ,World.more_drew];go_wp2;go_ret;exact⟨by simp[e],gw⟩
theorem diskWrong_any(h:DiskAt W x last pv ps cap): Calls Tryz.prog 57 #[.pointer (some ⟨x,0,none⟩)] W (Gives (.int .i64 0) W):=by
 have h1:=cell_of (o:=1) h.blk;simp at h1;clear h;go_enter Tryz.func57,Tryz.ntmps57;go_wp2;go_ret;refine⟨rfl,?_⟩;exact gw
theorem diskBurn_any(h:DiskAt W x last pv ps cap): Calls Tryz.prog 59 #[.pointer (some ⟨x,0,none⟩)] W (Gives (.bool true) W):=by
 have h0:=cell_of (o:=0) h.blk;simp at h0;clear h;go_enter Tryz.func59,Tryz.ntmps59;go_wp2;go_ret;refine⟨rfl,?_⟩;exact gw
theorem diskLen_any(h:DiskAt W x last pv ps cap): Calls Tryz.prog 119 #[.pointer (some ⟨x,0,none⟩)] W (Gives (.int .i64 ((last++ps.flatten).length:Nat)) W):=by
 have HA:=hY (diskAll_any h);have hl:=h.len;clear h;generalize last++ps.flatten=t at *;have hs:(t.length:Int)≤9223372036854775807:=by omega
 go_enter Tryz.func119,Tryz.ntmps119
 go_wp2_with (go_at_call 136;refine HA.o.mono ?_;rintro e w1 ⟨rfl,R3,n3,rfl⟩)
 go_ret;exact⟨by simp,gw⟩
theorem diskRead_any(h:DiskAt W x last pv ps cap): Calls Tryz.prog 86 #[.pointer (some ⟨x,0,none⟩)] W (Gives (.tuple #[str (last++ps.flatten),.int .i64 0]) W):=by
 have HA:=hY fun W' (g:Grew W W')=>diskAll_any (h.grew g)
 have HW:=hY (diskWrong_any h);clear h;generalize last++ps.flatten=t at *;go_enter Tryz.func86,Tryz.ntmps86
 go_wp2_with (first
  | (go_at_call 57;refine HW.o.mono ?_;rintro e w1 ⟨rfl,R1,n1,rfl⟩)
  | (go_at_call 136;refine(HA.o _ gw).mono ?_;rintro e w1 ⟨rfl,R3,n3,rfl⟩))
 go_ret2;exact⟨rfl,gw⟩
theorem diskRoom_any(h:DiskAt W x last pv ps cap)(hc:0≤cap∧cap≤16777216): Calls Tryz.prog 58 #[.pointer (some ⟨x,0,none⟩)] W (Gives (.int .i64 (cap-((last++ps.flatten).length:Nat))) W):=by
 have HA:=hY fun W' (g:Grew W W')=>diskLen_any (h.grew g)
 have h4:=cell_of (o:=4) h.blk;simp at h4;have hb:Pre x W:=heap_lt h.blk;have hl:=h.len;clear h;generalize (last++ps.flatten).length=n at *;go_enter Tryz.func58,Tryz.ntmps58
 go_wp2_with fail
 refine wp_region_seq 7 Tryz.mixed (by kernel_rfl) (by kernel_rfl) ?_
 iterate 5
  apply Seq.val
  focus
   rintro w1 u ⟨R1,n1,rfl⟩ hF;simp[moreFacts,Fact.more,Oper.deps,Region.binds,List.filter_cons,World.more_drew] at hF;simp[putFacts,Oper.deps,Region.binds,List.filter_cons,Region.dstOf,Fact.at,Act.put,World.more_drew];go_wp2;exact⟨gw,rfl,_,_,rfl,rfl,rfl⟩
 apply Seq.val
 focus
  rintro w1 u ⟨R1,n1,rfl⟩ hF;simp[moreFacts,Fact.more,Oper.deps,Region.binds,List.filter_cons,World.more_drew] at hF;simp[putFacts,Oper.deps,Region.binds,List.filter_cons,Region.dstOf,Fact.at,Act.put,World.more_drew]
  go_wp2_with (first
   | (go_at_call 119;refine(HA.o _ gw).mono ?_;rintro e w1 ⟨rfl,R3,n3,rfl⟩)
   )
  exact⟨gw,rfl,_,_,rfl,rfl,rfl⟩
 iterate 1
  apply Seq.val
  focus
   rintro w1 u ⟨R1,n1,rfl⟩ hF;simp[moreFacts,Fact.more,Oper.deps,Region.binds,List.filter_cons,World.more_drew] at hF;simp[putFacts,Oper.deps,Region.binds,List.filter_cons,Region.dstOf,Fact.at,Act.put,World.more_drew];go_wp2;exact⟨gw,rfl,_,_,rfl,rfl,rfl⟩
 rintro u w1 ⟨R1,n1,rfl⟩ hF;clear hF;simp[putFacts,Region.dstOf,Fact.at,Act.put,List.range_succ,World.more_drew];go_wp2;go_ret;exact⟨by first|rfl|(congr 1;omega)|simp,gw⟩
end
theorem diskAppend_any {W : World} {x:Nat} {last:List UInt8} {cap:Int} (w0:World) (s:List UInt8) (h:DiskAt W x last (.slice none 0 0) [] cap) (hg:Grew w0 W) (hx:w0.heap.size≤x) (hc:0≤cap∧cap≤16777216) (hs:s≠[]) (hroom:(s.length:Int)≤cap-last.length) (hl:last.length+s.length≤1000000) :
  Calls Tryz.prog 20 #[.pointer (some ⟨x,0,none⟩),.string ⟨s.toArray⟩] W fun e W'=>e = .returned (.int .i64 0)∧(∃pv,DiskAt W' x last pv [s] cap)∧Leaves [91] W W'∧Grew w0 W':=by
 have HW:=hY (diskWrong_any h);have HR:=hY fun W' (g:Grew W W')=>diskRoom_any (h.grew g) hc
 have HB:=hY fun W' (g:Grew W W')=>diskBurn_any (h.grew g)
 have h3:=cell_of (o:=3) h.blk;simp at h3;have hf3:=frozen_of (o:=3) h.blk;have hb:Pre x W:=heap_lt h.blk;have H:=hY h;rw[List.flatten_nil,List.append_nil] at HR;have hsz:(s.length:Int)≤9223372036854775807:=by omega
 have hroom2:¬(cap-(last.length:Int)<(s.length:Int)):=by omega
 have hne : s.isEmpty = false := by cases s;· exact absurd rfl hs
                                    ·rfl
 have HS:=hY hs;have HL:=hY hl;clear h hs hl hroom hc;have HG:=hY hg;have HX:=hY hx;clear hg hx;go_enter Tryz.func20,Tryz.ntmps20
 go_wp2_with (first
  | (go_at_call 57;refine HW.o.mono ?_;rintro e w1 ⟨rfl,R1,n1,rfl⟩)
  | (go_at_call 58;refine(HR.o _ gw).mono ?_;rintro e w1 ⟨rfl,R2,n2,rfl⟩)
  | (go_at_call 59;refine(HB.o _ gw).mono ?_;rintro e w1 ⟨rfl,R3,n3,rfl⟩)
  | (at_builtin;go_loud (refine wpList_ownK (w0:=w0) rfl (.tmp 30) (.tmp 32) 84 _ _ _ _ [s] rfl Tryz.underlying84 infoStr rfl (by decide) encS_len encS_one rfl (OwnAt.nil _) (HG.o.trans gw) rfl (str_at1 _ _ _ _ rfl (by simp[go_sem])) (by simp) (by decide) (by simp) ?_);intro v7 W7 hA;obtain⟨b9,c9,rfl⟩:=own_some' hA.2.1 (by simp);(have b7:=app_blk (W:=W) hA gw H.o.blk (by intro h;cases h));(have HL7:=hY (Leaves.app0 (T:=[91]) (W:=W) hA gw));(have HA7:=hY hA);(have B7:=hY b7);(have c7:=cell_of (o:=3) b7);(have f7:=frozen_of (o:=3) b7);(have p7:=Pre.mk (heap_lt b7));simp at c7;clear hA b7))
 go_ret;refine⟨rfl,⟨.slice (some ⟨b9,0,none⟩) 1 c9,?_⟩,?_,?_⟩
 ·have hl7:Leaves [91] W7 (W7.setCell ⟨x,3,none⟩ (.slice (some ⟨b9,0,none⟩) 1 c9)):=(Leaves.refl _ _).set B7.out (by simp);exact⟨set_blk B7.out rfl,hl7.own (OwnAt.low HA7.o.2.1 (Nat.zero_le _)) (by decide),by simp,by simpa using HL.o⟩
 ·exact Leaves.set (HL7.o) B7.out (by simp)
 ·exact Grew.set HA7.o.1 HX.o _
theorem diskSync_any{W:World}{x:Nat}{last:List UInt8}{pv:Value}{ps:List (List UInt8)}{cap:Int}(w0:World)(h:DiskAt W x last pv ps cap)(hg:Grew w0 W)(hx:w0.heap.size≤x):
  Calls Tryz.prog 89 #[.pointer (some ⟨x,0,none⟩)] W fun e W'=>e = .returned (.int .i64 0)∧DiskAt W' x (last++ps.flatten) (.slice none 0 0) [] cap∧Leaves [91] W W'∧Grew w0 W':=by
 have HW:=hY (diskWrong_any h);have HA:=hY fun W' (g:Grew W W')=>diskAll_any (h.grew g)
 have HB:=hY fun W' (g:Grew W W')=>diskBurn_any (h.grew g)
 have h2:=cell_of (o:=2) h.blk;have h3:=cell_of (o:=3) h.blk;simp at h2 h3;have hf2:=frozen_of (o:=2) h.blk;have hf3:=frozen_of (o:=3) h.blk;have hb:Pre x W:=heap_lt h.blk;have hB:=hY h.blk;have hL:=hY h.len;clear h;have HG:=hY hg;have HX:=hY hx;clear hg hx;generalize last++ps.flatten=t at *;go_enter Tryz.func89,Tryz.ntmps89
 go_wp2_with (first
  | (go_at_call 57;refine HW.o.mono ?_;rintro e w1 ⟨rfl,R1,n1,rfl⟩)
  | (go_at_call 59;refine(HB.o _ gw).mono ?_;rintro e w1 ⟨rfl,R2,n2,rfl⟩)
  | (go_at_call 136;refine(HA.o _ gw).mono ?_;rintro e w1 ⟨rfl,R3,n3,rfl⟩))
 go_ret;have b1:=set_blk (o:=2) (v:=.string ⟨t.toArray⟩) hB.out rfl;have b2:=set_blk (o:=3) (v:=.slice none 0 0) b1 rfl;have hl:=((Leaves.refl [91] W).set (o:=2) (v:=.string ⟨t.toArray⟩) hB.out (by simp)).set (o:=3) (v:=.slice none 0 0) b1 (by simp);have hg:=(HG.o.set (o:=2) HX.o (.string ⟨t.toArray⟩)).set (o:=3) HX.o (.slice none 0 0);exact⟨rfl,⟨grew_heap gw b2,OwnAt.nil _,by simp,by simpa using hL.out⟩,hl.trans (Leaves.grew gw),hg.trans gw⟩
theorem diskNew_any(cap:Int)(w:World)(hc:0≤cap∧cap≤16777216): Calls Tryz.prog 9 #[.int .i64 cap] w fun e w'=>∃x,e = .returned (.pointer (some ⟨x,0,none⟩))∧w.heap.size≤x∧DiskAt w' x [] (.slice none 0 0) [] cap∧Grew w w':=by
 go_enter Tryz.func9,Tryz.ntmps9;go_wp2;go_ret;refine⟨_,rfl,Nat.le_refl _,⟨?_,OwnAt.nil _,by simp,by simp⟩,gw⟩;rw[heap_new_at _ _ _ rfl,show min (max cap 0) 16777216=cap by omega]
end Go.Proofs.YtipgfjihdglocaaGreat
