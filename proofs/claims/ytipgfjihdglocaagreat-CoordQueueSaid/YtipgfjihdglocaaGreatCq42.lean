import Derived.Test.YtipgfjihdglocaaGreatCq40
import Derived.Test.YtipgfjihdglocaaGreatCq38
import Derived.Test.YtipgfjihdglocaaGreatCq41
import Derived.Test.YtipgfjihdglocaaGreatCq33
import Derived.Test.YtipgfjihdglocaaGreatCq5
import Derived.Test.YtipgfjihdglocaaGreatCq36
import Derived.Test.YtipgfjihdglocaaGreatCq28
set_option linter.unusedSimpArgs false
set_option linter.unusedVariables false
set_option maxRecDepth 100000
set_option maxHeartbeats 64000000
namespace Go.Proofs.YtipgfjihdglocaaGreat
open Go.RowKit Ga
theorem str_at2(W:World)(x y:List UInt8)(t:TypeId){c:Array Value}{n cap:Nat}{v:Value}(hc:c=#[.string ⟨x.toArray⟩,.string ⟨y.toArray⟩])(hv:v = .slice (some ⟨n,0,none⟩) 2 cap)(hn:n=W.heap.size): RowsAt 1 encS (W.alloc (.cells c t)) v [x,y]:=by
 subst hc hv;exact RowsAt.fresh (l:=[x,y]) (ls:=2) (c:=[.string ⟨x.toArray⟩,.string ⟨y.toArray⟩]) rfl (by simp[maxLen]) encS_len hn rfl
theorem sumFrame_any(s:List UInt8)(w:World)(hs:s.length≤900000): Calls Tryz.prog 95 #[.string ⟨s.toArray⟩] w fun e w'=>∃f:List UInt8,f.length=s.length+8∧Gives (str f) w e w':=by
 have hsz:(s.length:Int)≤9223372036854775807:=by omega
 have HS:=hY hs;have HF:=hY fun n W=>sumFour_any n W
 go_enter Tryz.func95,Tryz.ntmps95
 go_wp2_with (go_at_call 147;refine(HF.o _ _).mono ?_;rintro e w1 ⟨b,hb,rfl,R3,n3,rfl⟩)
 refine(sumOf_any _ [b,s] _ (str_at2 _ _ _ _ rfl rfl (by simp[go_sem])) (by have:=HS.o;intro l hl;simp at hl;rcases hl with rfl|rfl<;>omega)).mono ?_
 rintro e w1 ⟨y,rfl,R4,n4,rfl⟩;have HB:=hY hb
 go_wp2_with (go_at_call 147;refine(HF.o _ _).mono ?_;rintro e w1 ⟨b2,hb2,rfl,R5,n5,rfl⟩;(have e1:=str_cat b b2);(have e2:=str_cat (b++b2) s);(have q1:¬9223372036854775807<b.length+b2.length:=by omega);(have q2:¬9223372036854775807<(b++b2).length+s.length:=by rw[List.length_append];omega))
 go_ret;exact⟨b++(b2++s),by simp;omega,rfl,gw⟩
theorem sumOpen_nil(w:World): Calls Tryz.prog 137 #[.string ⟨#[]⟩] w (Gives (.tuple #[.string ⟨#[]⟩,.string ⟨#[]⟩,.int .i64 3]) w):=by
 go_enter Tryz.func137,Tryz.ntmps137;go_wp2;exact bodyPost_ret (v:=.tuple #[.string ⟨#[]⟩,.string ⟨#[]⟩,.int .i64 3]) (by simp[results,Tryz.results137,go_sem]) rfl ⟨rfl,gw⟩
theorem logScan_nil(w:World): Calls Tryz.prog 87 #[.string ⟨#[]⟩] w (Gives (.tuple #[.slice none 0 0,.int .i64 0]) w):=by
 go_enter Tryz.func87,Tryz.ntmps87;go_wp2;refine wp_scope_jumps1' 0 (fun _ _=>False) (fun _ _=>0) rfl (fun _ _ h=>h.elim) fun _=>?_
 go_wp2;refine wp_label ?_
 go_wp2_with (go_at_call 137;refine(sumOpen_nil _).mono ?_;rintro e w1 ⟨rfl,R3,n3,rfl⟩)
 go_ret2;exact⟨rfl,gw⟩
structure LogAt (base:Nat) (W:World) (y x:Nat) (av:Value) (ls:List (List UInt8)):Prop where
 blk:W.heap[y]? = some (.cells #[.pointer (some ⟨x,0,none⟩),av] 144)
 own:OwnAt base 9 1 encS W av ls
theorem logOpen_nil{W:World}{x:Nat}{cap:Int}(w0:World)(h:DiskAt W x [] (.slice none 0 0) [] cap)(hg:Grew w0 W)(hx:w0.heap.size≤x): Calls Tryz.prog 33 #[.pointer (some ⟨x,0,none⟩)] W fun e W'=>∃y,e = .returned (.tuple #[.pointer (some ⟨y,0,none⟩),.int .i64 0])∧w0.heap.size≤y∧LogAt w0.heap.size W' y x (.slice none 0 0) []∧DiskAt W' x [] (.slice none 0 0) [] cap∧Leaves [91] W W'∧Grew w0 W':=by
 have HR:=hY (diskRead_any h);have HS:=hY fun W' (g:Grew W W')=>diskSync_any w0 (h.grew g) (hg.trans g) hx
 clear h hg hx;go_enter Tryz.func33,Tryz.ntmps33
 go_wp2_with (first
  | (go_at_call 86;refine HR.o.mono ?_;rintro e w1 ⟨rfl,R1,n1,rfl⟩)
  | (go_at_call 87;refine(logScan_nil _).mono ?_;rintro e w1 ⟨rfl,R2,n2,rfl⟩)
  | (go_at_call 89;refine(HS.o _ gw).mono ?_;rintro e w1 ⟨rfl,hd,hl,hg⟩;(have HD:=hY hd);(have HL:=hY hl);(have HG:=hY hg);clear hd hl hg))
 go_ret2;exact⟨_,rfl,HG.o.below.size,⟨heap_new_at _ _ _ rfl,OwnAt.nil _⟩,HD.o.grew gw,(Leaves.grew gw).trans (HL.o.trans (Leaves.grew gw)),HG.o.trans gw⟩
def IsFr(n:Nat)(v:Value)(w:World): Prop:=∃f:List UInt8,v=str f∧f.length=n
theorem IsFr.st(n:Nat): ∀v w w',IsFr n v w→Grew w w'→IsFr n v w':=fun _ _ _ h _=>h
theorem logAppend_any{W:World}{y x:Nat}{av:Value}{ls:List (List UInt8)}{last:List UInt8}{cap:Int}(w0:World)(s:List UInt8)(h:LogAt w0.heap.size W y x av ls)(hd:DiskAt W x last (.slice none 0 0) [] cap)(hg:Grew w0 W)(hx:w0.heap.size≤x)(hy:w0.heap.size≤y)(hc:0≤cap∧cap≤16777216)(hroom:(s.length:Int)+8≤cap-last.length)(hl:last.length+s.length≤900000)(hn:ls.length≤1000):
  Calls Tryz.prog 37 #[.pointer (some ⟨y,0,none⟩),.string ⟨s.toArray⟩] W fun e W'=>e = .returned (.int .i64 0)∧(∃av',LogAt w0.heap.size W' y x av' (ls++[s]))∧(∃last',DiskAt W' x last' (.slice none 0 0) [] cap∧last'.length=last.length+s.length+8)∧Leaves [91,144,9] W W'∧Grew w0 W':=by
 have H:=hY h;have HD:=hY hd;have h0:=cell_of (o:=0) h.blk;have h1:=cell_of (o:=1) h.blk;simp at h0 h1;have hb:Pre y W:=heap_lt h.blk;have hsz:(s.length:Int)≤9223372036854775807:=by omega
 have hmost:¬((1048576:Int)<s.length):=by omega
 have HF:=hY fun W=>sumFrame_any s W (by omega)
 have HA:=hY fun(f:List UInt8) (hf:f.length=s.length+8) W' (g:Grew W W')=>diskAppend_any w0 f (hd.grew g) (hg.trans g) hx hc (by intro e;rw[e] at hf;simp at hf) (by rw[hf];omega) (by omega)
 have HG:=hY hg;have HX:=hY hx;have HY:=hY hy;have HL:=hY hl;have HN:=hY hn;clear h hd hg hx hy hc hroom hl hn;go_enter Tryz.func37,Tryz.ntmps37
 go_wp2_with fail
 refine wp_region_seq 6 Tryz.mixed (by kernel_rfl) (by kernel_rfl) ?_
 iterate 5
  apply Seq.val
  focus
   rintro w1 u ⟨R1,n1,rfl⟩ hF;simp[moreFacts,Fact.more,Oper.deps,Region.binds,List.filter_cons,World.more_drew] at hF;simp[putFacts,Oper.deps,Region.binds,List.filter_cons,Region.dstOf,Fact.at,Act.put,World.more_drew];go_wp2;exact⟨gw,rfl,_,_,rfl,rfl,rfl⟩
 apply Seq.of (IsFr (s.length+8)) (IsFr.st _)
 focus
  rintro w1 u ⟨R1,n1,rfl⟩ hF;simp[moreFacts,Fact.more,Oper.deps,Region.binds,List.filter_cons,World.more_drew] at hF;simp[putFacts,Oper.deps,Region.binds,List.filter_cons,Region.dstOf,Fact.at,Act.put,World.more_drew]
  go_wp2_with (first
   | (go_at_call 95;refine(HF.o _).mono ?_;rintro e w2 ⟨f,hf,rfl,R3,n3,rfl⟩)
   )
  exact⟨gw,rfl,_,_,rfl,rfl,⟨f,rfl,hf⟩⟩
 rintro u w1 ⟨R1,n1,rfl⟩ hF;simp[moreFacts,apartFacts,Fact.more,Fact.isNew,List.range_succ,World.more_drew] at hF;obtain⟨f,hu,hf⟩:=hF;simp[putFacts,Region.dstOf,Fact.at,Act.put,List.range_succ,World.more_drew];rw[hu];clear hu h0 h1 hb;have HFL:=hY hf;clear hf
 go_wp2_with (first
  | (go_at_call 20;refine(HA.o f HFL.o _ gw).mono ?_;rintro e wA ⟨rfl,⟨pv,hdA⟩,hlA,hgA⟩;(have hl1:Leaves [91] W wA:=(Leaves.grew gw).trans hlA);(have bA:=hl1.at H.o.blk (by decide));(have a0:=cell_of (o:=0) bA);simp at a0;(have pA:=Pre.mk (heap_lt bA));(have HDA:=hY hdA);(have HLA:=hY hl1);(have HGA:=hY hgA);clear hdA hlA hgA hl1 bA)
  | (go_at_call 89;refine(diskSync_any w0 (HDA.o.grew gw) (HGA.o.trans gw) HX.o).mono ?_;rintro e wB ⟨rfl,hdB,hlB,hgB⟩;clear a0 pA;(have hl2:Leaves [91] W wB:=HLA.o.trans ((Leaves.grew gw).trans hlB));(have bB:=hl2.at H.o.blk (by decide));(have c1:=cell_of (o:=1) bB);simp at c1;(have HBB:=hY bB);(have pB:=Pre.mk (heap_lt bB));(have HDB:=hY hdB);(have HLB:=hY hl2);(have HGB:=hY hgB);clear hdB hlB hgB hl2 bB)
  | (at_builtin;go_loud (refine wpList_ownK (w0:=w0) rfl (.tmp 36) (.tmp 38) 84 _ _ _ _ [s] rfl Tryz.underlying84 infoStr rfl (by decide) encS_len encS_one rfl (OwnAt.grew (HLB.o.own H.o.own (by decide)) gw) (HGB.o.trans gw) rfl (str_at1 _ _ _ _ rfl (by simp[go_sem])) (by have:=HN.o;simp;omega) (by decide) (by simp) ?_);intro v7 W7 hA;obtain⟨b9,c9,rfl⟩:=own_some' hA.2.1 (by simp);(have b7:=app_blk (W:=wB) hA gw HBB.o ((HLB.o.own H.o.own (by decide)).other HBB.o (by decide)));(have HL7:=hY (Leaves.app (T:=[91,144,9]) ((HLB.o.mono (by simp)).trans (Leaves.grew gw)) (OwnAt.grew (HLB.o.own H.o.own (by decide)) gw) hA (by simp)));(have HS7:=hY (Leaves.app (T:=[9]) (W:=wB) (Leaves.grew gw) (OwnAt.grew (HLB.o.own H.o.own (by decide)) gw) hA (by simp)));(have HA7:=hY hA);(have B7:=hY b7);(have c7:=cell_of (o:=1) b7);(have f7:=frozen_of (o:=1) b7);(have p7:=Pre.mk (heap_lt b7));simp at c7;clear hA b7))
 go_ret;have e7:=set_blk (o:=1) (v:=.slice (some ⟨b9,0,none⟩) (ls.length+1) c9) B7.out rfl;have hl7:Leaves [144] W7 (W7.setCell ⟨y,1,none⟩ (.slice (some ⟨b9,0,none⟩) (ls.length+1) c9)):=(Leaves.refl _ _).set B7.out (by simp);have ho:=HA7.o.2.1;rw[List.length_append] at ho;exact⟨rfl,⟨_,e7,hl7.own ho (by decide)⟩,⟨_,((HDB.o.leaves HS7.o (by decide)).leaves hl7 (by decide)),by simp[HFL.o];omega⟩,HL7.o.trans (hl7.mono (by simp)),Grew.set HA7.o.1 HY.o _⟩
theorem logLen_any{W:World}{base y x:Nat}{av:Value}{ls:List (List UInt8)}(h:LogAt base W y x av ls): Calls Tryz.prog 34 #[.pointer (some ⟨y,0,none⟩)] W (Gives (.int .i64 ls.length) W):=by
 have h1:=cell_of (o:=1) h.blk;simp at h1;obtain⟨a,cap,rfl,hn,-⟩:=(OwnAt.rows h.own encS_len).open1;clear h;go_enter Tryz.func34,Tryz.ntmps34;go_wp2;go_ret;refine⟨rfl,?_⟩;exact gw
theorem cloneStr_any{W:World}{base:Nat}{v:Value}{ls:List (List UInt8)}(h:OwnAt base 9 1 encS W v ls)(hn:ls.length≤1000000): Calls Tryz.prog 96 #[v] W fun e W'=>∃v',e = .returned v'∧OwnAt W.heap.size 9 1 encS W' v' ls∧Grew W W':=by
 rcases h.form with ⟨rfl,rfl⟩|⟨b,cap,rfl,-,-,-⟩
 ·refine(Tryz.slices_Clone_string_nil 0 0 W).mono ?_;rintro e W' ⟨rfl,rfl⟩;exact⟨_,rfl,OwnAt.nil _,Grew.refl _⟩
 ·have hr:=h.rows encS_len
  have hc:∀j,j<(ls.map fun l=>(⟨l.toArray⟩:ByteArray)).length→W.cell? ⟨b,0+j,none⟩=some (.string ((ls.map fun l=>(⟨l.toArray⟩:ByteArray)).getD j ByteArray.empty)):=by
   intro j hj;rw[List.length_map] at hj;obtain⟨a,cap',hv,-,hx⟩:=hr;obtain⟨b',off,hab,hx⟩:=hx (by intro e;subst e;simp at hj);cases hv;cases hab;have:=hx j ls[j] (List.getElem?_eq_getElem hj) 0 (.string ⟨ls[j].toArray⟩) rfl;rw[List.getD_eq_getElem?_getD,List.getElem?_map,List.getElem?_eq_getElem hj];simpa using this
  refine(Tryz.slices_Clone_string b 0 ls.length cap (ls.map fun l=>(⟨l.toArray⟩:ByteArray)) W (by simp) (by omega) hc).mono ?_;rintro e W' ⟨v',rfl,h1,-,h2⟩;refine⟨v',rfl,?_,Grew.ofBelow h2⟩;unfold OwnAt;rw[flatMap_encS]
  have e2:((ls.map fun l=>(⟨l.toArray⟩:ByteArray)).take ls.length).map Value.string=ls.map fun x=>Value.string ⟨x.toArray⟩:=by
   rw[List.take_of_length_le (by simp),List.map_map];rfl
  rw[e2] at h1;exact h1
theorem logAll_any{W:World}{base y x:Nat}{av:Value}{ls:List (List UInt8)}(h:LogAt base W y x av ls)(hn:ls.length≤1000000): Calls Tryz.prog 39 #[.pointer (some ⟨y,0,none⟩)] W fun e W'=>∃v,e = .returned v∧OwnAt W.heap.size 9 1 encS W' v ls∧Grew W W':=by
 have h1:=cell_of (o:=1) h.blk;simp at h1;have HC:=hY (cloneStr_any h.own hn);clear h;go_enter Tryz.func39,Tryz.ntmps39
 go_wp2_with (go_at_call 96;refine HC.o.mono ?_;rintro e w1 ⟨v,rfl,ho,R3,n3,rfl⟩;(have HO:=hY ho);clear ho)
 go_ret;exact⟨v,rfl,HO.o,gw⟩
structure OkH (m:Gr.Mf):Prop where
 r:Gr.RightM fitsP m
 s:Small m.graph
 p:∀s∈m.plan,s.nd.frm.length≤100∧s.nd.prog.length≤1000
 o:m.out.length≤3000
 h8:∀n∈m.graph,n.route.length=8
 l:(Gr.putM putI m).length≤100000
theorem getM_back{m:Gr.Mf}(hr:Gr.RightM fitsP m)(h8:∀n∈m.graph,n.route.length=8): getMB (Gr.putM putI m)=(m,0):=by
 have h1:=(Gr.man_item codecI).put m [] (hr.okM fits_nil (fun p hp=>safe_fits hp) h8 (fun l hl=>putI_len l hl));rw[List.append_nil] at h1;unfold getMB;rw[h1];simp only;rw[show endE (([]:List UInt8),(0:Int)) true=0 from rfl,if_neg (by simp),if_pos (rightB_iff.2 hr)]
theorem MfOwn.low{base:Nat}{w:World}{c:MfC}{m:Gr.Mf}(h:MfOwn base w c m): MfOwn 0 w c m:=by
 obtain⟨lc,h1,h2⟩:=h.g;obtain⟨lp,h3,h4⟩:=h.p;have key:∀{c:NdC} {n:Gr.Nd},OwnsNd base w c n→OwnsNd 0 w c n:=fun h=>⟨OwnAt.low h.1 (Nat.zero_le _),OwnAt.low h.2 (Nat.zero_le _)⟩
 exact⟨h.epoch,h.plans,OwnAt.low h.o (Nat.zero_le _),⟨lc,OwnAt.low h1 (Nat.zero_le _),Rel.mono (fun _ _ h=>⟨h.1,key h.2⟩) h2⟩,OwnAt.low h.e (Nat.zero_le _),OwnAt.low h.x (Nat.zero_le _),⟨lp,OwnAt.low h3 (Nat.zero_le _),Rel.mono (fun _ _ h=>⟨h.1,key h.2⟩) h4⟩⟩
theorem MfOwn.grew{base:Nat}{w w':World}{c:MfC}{m:Gr.Mf}(h:MfOwn base w c m)(g:Grew w w'): MfOwn base w' c m:=h.leaves (T:=[]) (Leaves.grew g) (by simp[NoData])
def IsMf(m:Gr.Mf)(v:Value)(w:World): Prop:=∃c:MfC,v = .agg #[.int .i64 c.epoch,.int .i64 c.plans,.slice c.ao c.no c.co,.slice c.ag c.ng c.cg,.slice c.ae c.ne c.ce,.slice c.ax c.nx c.cx,.slice c.ap c.np c.cp]∧MfOwn 0 w c m
theorem IsMf.st(m:Gr.Mf): ∀v w w',IsMf m v w→Grew w w'→IsMf m v w':=fun _ _ _ ⟨c,h1,h2⟩ g=>⟨c,h1,h2.grew g⟩
theorem coOwn_any(c:MfC)(m:Gr.Mf)(w:World)(h:MfIs w c m)(ok:OkH m): Calls Tryz.prog 49 #[.agg #[.int .i64 c.epoch,.int .i64 c.plans,.slice c.ao c.no c.co,.slice c.ag c.ng c.cg,.slice c.ae c.ne c.ce,.slice c.ax c.nx c.cx,.slice c.ap c.np c.cp]] w fun e w'=>∃c':MfC,e = .returned (.agg #[.int .i64 c'.epoch,.int .i64 c'.plans,.slice c'.ao c'.no c'.co,.slice c'.ag c'.ng c'.cg,.slice c'.ae c'.ne c'.ce,.slice c'.ax c'.nx c'.cx,.slice c'.ap c'.np c'.cp])∧MfOwn 0 w' c' m∧Grew w w':=by
 have HP:=hY fun W (g:Grew w W)=>packMan_ok c m W (h.grew g) ok.s ok.p ok.o ok.r
 have HB:=hY (getM_back ok.r ok.h8);have HG:=hY fun W=>getManO_any (Gr.putM putI m) W ok.l
 rw[HB.o] at HG;generalize Gr.putM putI m=s at *;obtain⟨ep,pl,ao,no,co,ag,ng,cg,ae,ne,ce,ax,nx,cx,ap,np,cp⟩:=c;simp only at *;clear h ok HB;go_enter Tryz.func49,Tryz.ntmps49
 go_wp2_with (first
  | (go_at_call 36;refine(HP.o _ gw).mono ?_;rintro e w1 ⟨rfl,R1,n1,rfl⟩)
  | (go_at_call 40;refine(HG.o _).mono ?_;rintro e w2 ⟨⟨ep2,pl2,ao2,no2,co2,ag2,ng2,cg2,ae2,ne2,ce2,ax2,nx2,cx2,ap2,np2,cp2⟩,rfl,hm,R2,n2,rfl⟩;(have HM:=hY hm);clear hm))
 refine bodyPost_ret (v:=.agg #[.int .i64 ep2,.int .i64 pl2,.slice ao2 no2 co2,.slice ag2 ng2 cg2,.slice ae2 ne2 ce2,.slice ax2 nx2 cx2,.slice ap2 np2 cp2]) (by simp[results,Tryz.results49,go_sem]) rfl ⟨⟨ep2,pl2,ao2,no2,co2,ag2,ng2,cg2,ae2,ne2,ce2,ax2,nx2,cx2,ap2,np2,cp2⟩,rfl,?_,gw⟩;exact(((Twin.new 47 _ _ _).more R1 n1).more R2 n2).own HM.o.low (by simp[NoData]) |>.grew gw
def encMh(c:MfC): List Value:=[.int .i64 c.epoch,.int .i64 c.plans,.slice c.ao c.no c.co,.slice c.ag c.ng c.cg,.slice c.ae c.ne c.ce,.slice c.ax c.nx c.cx,.slice c.ap c.np c.cp]
theorem encMh_len(c:MfC): (encMh c).length=7:=rfl
theorem encMh_one(c:MfC): ∀u∈encMh c,u.oneCell'=true:=by intro u hu;simp[encMh] at hu;rcases hu with rfl|rfl|rfl|rfl|rfl|rfl|rfl<;>rfl
def HistAt(base:Nat)(W:World)(hv:Value)(ms:List Gr.Mf): Prop:=∃cs:List MfC,OwnAt base 47 7 encMh W hv cs∧Rel (MfOwn 0 W) cs ms
theorem HistAt.leaves{T:List TypeId}{W W':World}{base:Nat}{hv:Value}{ms:List Gr.Mf}(h:HistAt base W hv ms)(g:Leaves T W W')(hT:NoData T)(hM:47∉T): HistAt base W' hv ms:=by
 obtain⟨cs,h1,h2⟩:=h;exact⟨cs,g.own h1 hM,Rel.mono (fun _ _ q=>q.leaves g hT) h2⟩
theorem HistAt.grew{W W':World}{base:Nat}{hv:Value}{ms:List Gr.Mf}(h:HistAt base W hv ms)(g:Grew W W'): HistAt base W' hv ms:=h.leaves (T:=[]) (Leaves.grew g) (by simp[NoData]) (by simp)
theorem HistAt.at{W:World}{base:Nat}{hv:Value}{ms:List Gr.Mf}(h:HistAt base W hv ms): ∃a cap,hv = .slice a ms.length cap∧ms.length≤9223372036854775807∧∀k (hk:k<ms.length),∃b,a=some ⟨b,0,none⟩∧Pre b W∧∃c:MfC,MfOwn 0 W c ms[k]∧W.cell? ⟨b,k*7,none⟩=some (.int .i64 c.epoch)∧W.cell? ⟨b,k*7+1,none⟩=some (.int .i64 c.plans)∧W.cell? ⟨b,k*7+2,none⟩=some (.slice c.ao c.no c.co)∧W.cell? ⟨b,k*7+3,none⟩=some (.slice c.ag c.ng c.cg)∧W.cell? ⟨b,k*7+4,none⟩=some (.slice c.ae c.ne c.ce)∧W.cell? ⟨b,k*7+5,none⟩=some (.slice c.ax c.nx c.cx)∧W.cell? ⟨b,k*7+6,none⟩=some (.slice c.ap c.np c.cp):=by
 obtain⟨cs,h1,h2⟩:=h;have hl:=Rel.len h2;obtain⟨a,cap,e,hm,hx⟩:=OwnAt.rows h1 encMh_len;rw[hl] at e hm;refine⟨a,cap,e,by unfold maxLen at hm;omega,fun k hk=>?_⟩;have hkc:k<cs.length:=by omega
 obtain⟨b,off,hab,hc⟩:=hx (by intro q;rw[q] at hkc;simp at hkc)
 have h0:off=0:=by
  rcases h1.form with ⟨q,q2⟩|⟨b2,cap2,q,-⟩
  ·rw[q2] at hkc;simp at hkc
  ·rw[e,hab] at q;have q1:=(Value.slice.inj q).1;cases q1;rfl
 subst h0;have hg:=List.getElem?_eq_getElem hkc;have f:=fun j u hu=>hc k _ hg j u hu
 simp only[Nat.zero_add] at f;exact⟨b,hab,Pre.ofCell (f 0 _ rfl),cs[k],Rel.get h2 k _ _ hg (List.getElem?_eq_getElem hk),f 0 _ rfl,f 1 _ rfl,f 2 _ rfl,f 3 _ rfl,f 4 _ rfl,f 5 _ rfl,f 6 _ rfl⟩
theorem coManifest_any{W:World}{z base:Nat}{cs:Array Value}{hv:Value}{ms:List Gr.Mf}{m:Gr.Mf}(hz:W.heap[z]? = some (.cells cs 83))(h2:cs[2]? = some hv)(h:HistAt base W hv (ms++[m]))(ok:OkH m): Calls Tryz.prog 16 #[.pointer (some ⟨z,0,none⟩)] W fun e w'=>∃c':MfC,e = .returned (.agg #[.int .i64 c'.epoch,.int .i64 c'.plans,.slice c'.ao c'.no c'.co,.slice c'.ag c'.ng c'.cg,.slice c'.ae c'.ne c'.ce,.slice c'.ax c'.nx c'.cx,.slice c'.ap c'.np c'.cp])∧MfOwn 0 w' c' m∧Grew W w':=by
 have c2:=(cell_of (o:=2) hz).trans h2;have hb:Pre z W:=heap_lt hz;obtain⟨a,cap,rfl,hn,hx⟩:=h.at;obtain⟨b,rfl,hb2,c,hc,g0,g1,g2,g3,g4,g5,g6⟩:=hx ms.length (by simp);rw[List.getElem_concat_length rfl] at hc;have HO:=hY fun W' (g:Grew W W')=>coOwn_any c m W' (hc.is.grew g) ok
 rw[List.length_append,List.length_cons,List.length_nil] at *;simp only[Nat.zero_add] at *;generalize ms.length=n at *;have hn1:(n:Int)<9223372036854775807:=by omega
 have hn2:(n:Int)<(n:Int)+1:=by omega
 have hn3:(0:Int)≤n:=by omega
 obtain⟨ep,pl,ao,no,co,ag,ng,cg,ae,ne,ce,ax,nx,cx,ap,np,cp⟩:=c;simp only at *;clear h hx hc ok hz h2;go_enter Tryz.func16,Tryz.ntmps16
 go_wp2_with fail
 refine wp_region_seq 13 Tryz.mixed (by kernel_rfl) (by kernel_rfl) ?_
 iterate 12
  apply Seq.val
  focus
   rintro w1 u ⟨R1,n1,rfl⟩ hF;simp[moreFacts,Fact.more,Oper.deps,Region.binds,List.filter_cons,World.more_drew] at hF;simp[putFacts,Oper.deps,Region.binds,List.filter_cons,Region.dstOf,Fact.at,Act.put,World.more_drew];go_wp2;exact⟨gw,rfl,_,_,rfl,rfl,rfl⟩
 apply Seq.of (IsMf m) (IsMf.st _)
 focus
  rintro w1 u ⟨R1,n1,rfl⟩ hF;simp[moreFacts,Fact.more,Oper.deps,Region.binds,List.filter_cons,World.more_drew] at hF;simp[putFacts,Oper.deps,Region.binds,List.filter_cons,Region.dstOf,Fact.at,Act.put,World.more_drew]
  go_wp2_with (first
   | (go_at_call 49;refine(HO.o _ gw).mono ?_;rintro e w2 ⟨c2,rfl,hm,R3,n3,rfl⟩)
   )
  exact⟨gw,rfl,_,_,rfl,rfl,⟨c2,rfl,hm⟩⟩
 rintro u w1 ⟨R1,n1,rfl⟩ hF;simp[moreFacts,apartFacts,Fact.more,Fact.isNew,List.range_succ,World.more_drew] at hF;obtain⟨⟨ep2,pl2,ao2,no2,co2,ag2,ng2,cg2,ae2,ne2,ce2,ax2,nx2,cx2,ap2,np2,cp2⟩,hu,hm⟩:=hF;simp only at hu;simp[putFacts,Region.dstOf,Fact.at,Act.put,List.range_succ,World.more_drew];rw[hu];have HM:=hY hm;clear hu hm
 go_wp2_with fail
 refine bodyPost_ret (v:=.agg #[.int .i64 ep2,.int .i64 pl2,.slice ao2 no2 co2,.slice ag2 ng2 cg2,.slice ae2 ne2 ce2,.slice ax2 nx2 cx2,.slice ap2 np2 cp2]) (by simp[results,Tryz.results16,go_sem]) rfl ⟨⟨ep2,pl2,ao2,no2,co2,ag2,ng2,cg2,ae2,ne2,ce2,ax2,nx2,cx2,ap2,np2,cp2⟩,rfl,?_,gw⟩;exact((Twin.new 47 _ _ _).more R1 n1).own HM.o (by simp[NoData])
abbrev SlC:=Option Addr×Nat×Nat
abbrev SlC.v(x:SlC): Value:=.slice x.1 x.2.1 x.2.2
def encSl(x:SlC): List Value:=[x.v]
theorem encSl_len(c:SlC): (encSl c).length=1:=rfl
theorem encSl_one(c:SlC): ∀u∈encSl c,u.oneCell'=true:=by intro u hu;simp[encSl] at hu;subst hu;rfl
def WaitAt(W:World)(x:SlC)(p:List Gr.Stp): Prop:=PlOwn 0 W x.v p∧∀s∈p,smallS s
def QueueAt(base:Nat)(W:World)(qv:Value)(ps:List (List Gr.Stp)): Prop:=∃cs:List SlC,OwnAt base 34 1 encSl W qv cs∧Rel (WaitAt W) cs ps
theorem QueueAt.leaves{T:List TypeId}{W W':World}{base:Nat}{qv:Value}{ps:List (List Gr.Stp)}(h:QueueAt base W qv ps)(g:Leaves T W W')(hT:NoData T)(hM:34∉T): QueueAt base W' qv ps:=by
 obtain⟨cs,h1,h2⟩:=h;exact⟨cs,g.own h1 hM,Rel.mono (fun _ _ q=>⟨q.1.leaves g hT,q.2⟩) h2⟩
theorem QueueAt.grew{W W':World}{base:Nat}{qv:Value}{ps:List (List Gr.Stp)}(h:QueueAt base W qv ps)(g:Grew W W'): QueueAt base W' qv ps:=h.leaves (T:=[]) (Leaves.grew g) (by simp[NoData]) (by simp)
theorem QueueAt.at{W:World}{base:Nat}{qv:Value}{ps:List (List Gr.Stp)}(h:QueueAt base W qv ps): ∃a cap,qv = .slice a ps.length cap∧ps.length≤9223372036854775807∧∀k (hk:k<ps.length),∃b,a=some ⟨b,0,none⟩∧Pre b W∧∃x:SlC,WaitAt W x ps[k]∧W.cell? ⟨b,k,none⟩=some x.v:=by
 obtain⟨cs,h1,h2⟩:=h;have hl:=Rel.len h2;obtain⟨a,cap,e,hm,hx⟩:=OwnAt.rows h1 encSl_len;rw[hl] at e hm;refine⟨a,cap,e,by unfold maxLen at hm;omega,fun k hk=>?_⟩;have hkc:k<cs.length:=by omega
 obtain⟨b,off,hab,hc⟩:=hx (by intro q;rw[q] at hkc;simp at hkc)
 have h0:off=0:=by
  rcases h1.form with ⟨q,q2⟩|⟨b2,cap2,q,-⟩
  ·rw[q2] at hkc;simp at hkc
  ·rw[e,hab] at q;have q1:=(Value.slice.inj q).1;cases q1;rfl
 subst h0;have hg:=List.getElem?_eq_getElem hkc;have f:=hc k _ hg 0 _ rfl;simp only[Nat.zero_add,Nat.mul_one,Nat.add_zero] at f;exact⟨b,hab,Pre.ofCell f,cs[k],Rel.get h2 k _ _ hg (List.getElem?_eq_getElem hk),f⟩
theorem coField3(c:MfC)(w:World): (Instr.field 47 (.agg #[.int .i64 c.epoch,.int .i64 c.plans,.slice c.ao c.no c.co,.slice c.ag c.ng c.cg,.slice c.ae c.ne c.ce,.slice c.ax c.nx c.cx,.slice c.ap c.np c.cp]) 3).run Tryz.prog w = .ok (.slice c.ag c.ng c.cg) w:=by kernel_rfl
theorem ahead_succ{g:List Gr.Nd}{ps:List (List Gr.Stp)}{k:Nat}(hk:k<ps.length): Gr.aheadG checkR g (ps.take (k+1))=Gr.nextG checkR (Gr.aheadG checkR g (ps.take k)) ps[k]:=by
 rw[List.take_succ_eq_append_getElem hk,Gr.aheadG_snoc]
theorem coAhead_any{W:World}{z base bq:Nat}{cs:Array Value}{hv qv:Value}{ms:List Gr.Mf}{m:Gr.Mf}{ps:List (List Gr.Stp)}(hz:W.heap[z]? = some (.cells cs 83))(h2:cs[2]? = some hv)(h3:cs[3]? = some qv)(h:HistAt base W hv (ms++[m]))(ok:OkH m)(hq:QueueAt bq W qv ps): Calls Tryz.prog 47 #[.pointer (some ⟨z,0,none⟩)] W fun e w'=>∃v l,e = .returned v∧NodesAt w' v l∧Small l∧l.Perm (Gr.aheadG checkR m.graph ps)∧Grew W w':=by
 have HM:=hY (coManifest_any hz h2 h ok);have c3:=(cell_of (o:=3) hz).trans h3;have hb:Pre z W:=heap_lt hz;have HQ:=hY hq;have HS:=hY ok.s;obtain⟨a,cap,rfl,hn,-⟩:=hq.at;clear hz h2 h3 h hq ok;have hfld:=coField3;go_enter Tryz.func47,Tryz.ntmps47
 go_wp2_with (go_at_call 16;refine HM.o.mono ?_;rintro e w1 ⟨c,rfl,hm,R1,n1,rfl⟩;(have HMO:=hY hm);clear hm)
 go_loopg [3,17] ps.length (fun gg s3 s17 wr=>∃k:Nat,k≤ps.length∧ps.length-k≤gg∧s17 = .int .i64 k∧Hid (Grew W wr)∧Hid (∃l,NodesAt wr s3 l∧Small l∧l.Perm (Gr.aheadG checkR m.graph (ps.take k))))
 case atStart=>exact⟨0,by omega,by omega,rfl,hY gw,hY ⟨m.graph,HMO.o.is.g.grew gw,HS.o,List.Perm.refl _⟩⟩
 case round =>
  obtain⟨k,hk,hgg,rfl,HG,HL⟩:=hrel;rename World=>wa;clear hfld;by_cases hlt:k<ps.length
  ·obtain⟨a',cap',e,-,hx⟩:=(HQ.o.grew HG.o).at;cases e;obtain⟨b,rfl,hb2,⟨pa,pn,pc⟩,⟨hw,hs⟩,hc⟩:=hx k hlt;simp only[SlC.v] at hw hc;have hk2:(k:Int)<ps.length:=by omega
   have HAS:=hY (ahead_succ (g:=m.graph) hlt);obtain⟨l,hl1,hl2,hl3⟩:=HL.o;have HAP:=hY fun W' (g:Grew wa W')=>planApply_any _ _ l ps[k] W' (hl1.grew g) hl2 (hw.at.grew g) hs
   obtain⟨r,hr⟩:∃r,Gr.applyE checkR l ps[k]=r:=⟨_,rfl⟩;have hgo:Gr.goes checkR (Gr.aheadG checkR m.graph (ps.take k)) ps[k]=decide (r.1=0):=by rw[←Gr.goes_perm chkR hl3,←hr];rfl
   have hnx:=Gr.nextG_perm chkR hl3 ps[k];have hgl:Gr.goes checkR l ps[k]=decide (r.1=0):=by rw[←hr];rfl
   unfold Gr.nextG at hnx;rw[hgl,hr] at hnx;unfold Gr.nextG at HAS;rw[hr] at HAP;have HNX:=hY hnx;have HL2:=hY hl2;have HL1:=hY hl1;clear hx hw hs hl1 hl2 hl3 hnx HL hgl hr;obtain⟨er,ir,gr⟩:=r;simp only at *;by_cases hr0:er=0
   ·subst hr0;have HR0:=hY (rfl:(0:Int)=0);clear hgo
    go_wp2_with (go_at_call 11;refine(HAP.o _ gw).mono ?_;rintro e w2 ⟨⟨R2,n2,rfl⟩,h9⟩;rcases h9 with ⟨hne,-⟩|⟨-,v9,lc9,l9,rfl,ho9,hi9,hp9,-,hs9⟩;exact absurd rfl hne;(have H9:=hY (hi9.at ho9));(have HP9:=hY hp9);(have HS9:=hY hs9);clear ho9 hi9 hp9 hs9)
    go_roundg (ps.length-(k+1))
    case measure=>omega
    case rel=>exact⟨k+1,by omega,by omega,by go_num,hY (HG.o.trans gw),hY ⟨l9,H9.o.grew gw,HS9.o,by rw[HAS.o];exact HP9.o.trans (by simpa using HNX.o)⟩⟩
   ·have hne:(er==0)=false:=by rw[beq_eq_false_iff_ne];exact hr0
    have HR0:=hY hr0;clear hgo hr0
    go_wp2_with (go_at_call 11;refine(HAP.o _ gw).mono ?_;rintro e w2 ⟨⟨R2,n2,rfl⟩,h9⟩;rcases h9 with ⟨-,rfl⟩|⟨h0,-⟩;rotate_left;exact absurd h0 HR0.o)
    go_roundg (ps.length-(k+1))
    case measure=>omega
    case rel=>exact⟨k+1,by omega,by omega,by go_num,hY (HG.o.trans gw),hY ⟨l,HL1.o.grew gw,HL2.o,by rw[HAS.o];simpa [HR0.o] using HNX.o⟩⟩
  ·obtain rfl:k=ps.length:=by omega
   rw[List.take_length] at HL;go_wp2;go_ret;obtain⟨l,h1,h2,h3⟩:=HL.o;exact⟨_,l,rfl,h1.grew gw,h2,h3,HG.o.trans gw⟩
structure CoAt (w0 W:World) (z bk lg:Nat) (ms:List Gr.Mf) (m:Gr.Mf) (ps:List (List Gr.Stp)) (uv:Value) (pl:Bool) (last ref:Int):Prop where
 blk:∃hv qv,W.heap[z]? = some (.cells #[.pointer (some ⟨bk,0,none⟩),.pointer (some ⟨lg,0,none⟩),hv,qv,uv,.bool pl,.int .i64 last,.int .i64 ref] 83)∧HistAt w0.heap.size W hv (ms++[m])∧QueueAt w0.heap.size W qv ps
 ok:OkH m
 n:ps.length≤1000
 z0:w0.heap.size≤z
 g:Grew w0 W
theorem CoAt.grew{w0 W W':World}{z bk lg:Nat}{ms:List Gr.Mf}{m:Gr.Mf}{ps:List (List Gr.Stp)}{uv:Value}{pl:Bool}{last ref:Int}(h:CoAt w0 W z bk lg ms m ps uv pl last ref)(g:Grew W W'): CoAt w0 W' z bk lg ms m ps uv pl last ref:=by
 obtain⟨hv,qv,h1,h2,h3⟩:=h.blk;exact⟨⟨hv,qv,grew_heap g h1,h2.grew g,h3.grew g⟩,h.ok,h.n,h.z0,h.g.trans g⟩
theorem plan_smallS{s:List UInt8}{q:List Gr.Stp}(h:Gr.getPl getL s=(q,0)): ∀x∈q,smallS x:=by
 obtain⟨⟨-,-,h1⟩,-,h2⟩:=Gr.getPl_can codecI h;intro x hx;have h3:=h1 x hx;have h4:=h3.2;rw[h2 x hx] at h4;have h5:Co.fitsI x.nd.prog=true:=h4.p;exact⟨by have:=h4.m;omega,by have:=(Co.fits_parts h5).1;omega⟩
theorem PlOwn.low{base:Nat}{w:World}{v:Value}{p:List Gr.Stp}(h:PlOwn base w v p): PlOwn 0 w v p:=by
 obtain⟨lp,h3,h4⟩:=h;exact⟨lp,OwnAt.low h3 (Nat.zero_le _),Rel.mono (fun _ _ h=>⟨h.1,⟨OwnAt.low h.2.1 (Nat.zero_le _),OwnAt.low h.2.2 (Nat.zero_le _)⟩⟩) h4⟩
theorem PlOwn.form{base:Nat}{w:World}{v:Value}{p:List Gr.Stp}(h:PlOwn base w v p): ∃a n c,v = .slice a n c:=by
 obtain⟨a,c,e⟩:=h.at.openC;exact⟨_,_,_,e.1⟩
theorem PlOwn.grew{base:Nat}{w w':World}{v:Value}{p:List Gr.Stp}(h:PlOwn base w v p)(g:Grew w w'): PlOwn base w' v p:=h.leaves (T:=[]) (Leaves.grew g) (by simp[NoData])
noncomputable def subE(g:List Gr.Nd)(ps:List (List Gr.Stp))(s:List UInt8): Int :=
 if (Gr.getPl getL s).2≠0 then (Gr.getPl getL s).2 else if 4≤ps.length then 7 else (Gr.applyE checkR (Gr.aheadG checkR g ps) (Gr.getPl getL s).1).1
theorem infoSl:(Tryz.prog.info? 34).map (fun i=>(i.zero,i.size,i.bytes))=some (some (.slice none 0 0),1,24):=by kernel_rfl
theorem sl_at(W:World)(x:SlC)(t:TypeId)(b:Nat){c:Array Value}(hc:c=#[x.v])(hb:b=W.heap.size): ∀j u,(([x]:List SlC).flatMap encSl)[j]? = some u→(W.alloc (.cells c t)).cell? ⟨b,j,none⟩=some u:=by
 subst hc;intro j u hu;rw[new_cells W _ t b hb j];simpa [encSl] using hu
theorem apply_ahead{g:List Gr.Nd}{p:List Gr.Stp}{er:Int}(he:(Gr.applyE checkR g p).1=er){v vp:Value}{l:List Gr.Nd}{W:World}(hv:NodesAt W v l)(hs:Small l)(hl:l.Perm g)(hp:StepsAt W vp p)(hps:∀s∈p,smallS s): Calls Tryz.prog 11 #[v,vp] W fun e w'=>Grew W w'∧((er≠0∧∃i:Int,e = .returned (.tuple #[.slice none 0 0,.int .i64 i,.int .i64 er]))∨(er=0∧∃v',e = .returned (.tuple #[v',.int .i64 0,.int .i64 0]))):=by
 refine(planApply_any v vp l p W hv hs hp hps).mono ?_;have e1:=(Gr.applyE_perm chkR p hl).1;rw[he] at e1;rintro e w' ⟨h1,⟨h2,h3⟩|⟨h2,v',lc,l',h3,-⟩⟩
 ·rw[e1] at h2 h3;exact⟨h1,.inl ⟨h2,_,h3⟩⟩
 ·rw[e1] at h2;exact⟨h1,.inr ⟨h2,v',h3⟩⟩
def QKeep(z:Nat)(W W':World): Prop:=∀qv,W.cell? ⟨z,3,none⟩=some qv→W.heap.size≤W'.heap.size∧(∀b,b<W.heap.size→b≠z→qv.ownBlock≠some b→W'.heap[b]? = W.heap[b]?)∧∃qv',W'.cell? ⟨z,3,none⟩=some qv'∧∀b,qv'.ownBlock=some b→qv.ownBlock=some b∨W.heap.size≤b
theorem QKeep.grew{z:Nat}{W W':World}(g:Grew W W'): QKeep z W W':=fun qv hq=>⟨g.below.size,fun b hb _ _=>g.below.block b hb,qv,cell_grew hq g,fun b hb=>.inl hb⟩
theorem coSubmit_any{w0 W:World}{z bk lg:Nat}{ms:List Gr.Mf}{m:Gr.Mf}{ps:List (List Gr.Stp)}{uv:Value}{pl:Bool}{last ref:Int}(s:List UInt8)(h:CoAt w0 W z bk lg ms m ps uv pl last ref)(hs:s.length≤100000):
  Calls Tryz.prog 12 #[.pointer (some ⟨z,0,none⟩),.string ⟨s.toArray⟩] W fun e W'=>e = .returned (.int .i64 (subE m.graph ps s))∧CoAt w0 W' z bk lg ms m (if subE m.graph ps s=0 then ps++[(Gr.getPl getL s).1] else ps) uv pl last ref∧Leaves [83,34] W W'∧QKeep z W W':=by
 have HG:=hY (getPlan_own s W hs);obtain⟨⟨p,er⟩,hp⟩:∃r,Gr.getPl getL s=r:=⟨_,rfl⟩;have HPS:=hY fun(q:er=0)=>plan_smallS (s:=s) (q:=p) (by rw[hp,q])
 unfold subE;rw[hp] at HG ⊢;simp only at HG ⊢;clear hp;have H:=hY h;obtain⟨hv,qv,h1,h2,h3⟩:=h.blk;have hb:Pre z W:=heap_lt h1;have c3:=cell_of (o:=3) h1;have f3:=frozen_of (o:=3) h1;simp at c3;obtain⟨aq,cq,rfl,hn,-⟩:=h3.at;have hn2:=h.n;by_cases he:er≠0
 ·rw[if_pos he,if_neg he];have hne:(er != 0)=true:=by rw[bne_iff_ne];exact he
  clear he h h1 h2 h3 c3 f3;go_enter Tryz.func12,Tryz.ntmps12
  go_wp2_with (go_at_call 44;refine HG.o.mono ?_;rintro e w1 ⟨v1,rfl,-,R1,n1,rfl⟩)
  go_ret;exact⟨rfl,H.o.grew gw,Leaves.grew gw,QKeep.grew gw⟩
 ·obtain rfl:er=0:=by simpa using he
  have HP:=hY (HPS.o rfl);rw[if_neg he];by_cases h4:4≤ps.length
  ·rw[if_pos h4,if_neg (by decide)];have h4':(4:Int)≤ps.length:=by omega
   clear he h h1 h2 h3 f3 h4;go_enter Tryz.func12,Tryz.ntmps12
   go_wp2_with (go_at_call 44;refine HG.o.mono ?_;rintro e w1 ⟨v1,rfl,-,R1,n1,rfl⟩)
   go_ret;exact⟨rfl,H.o.grew gw,Leaves.grew gw,QKeep.grew gw⟩
  ·rw[if_neg h4];have h4':¬(4:Int)≤ps.length:=by omega
   have HA:=hY fun W' (g:Grew W W')=>coAhead_any (grew_heap g h1) rfl rfl (h2.grew g) h.ok (h3.grew g)
   obtain⟨e2,he2⟩:∃r,(Gr.applyE checkR (Gr.aheadG checkR m.graph ps) p).1=r:=⟨_,rfl⟩;rw[he2];have HAP:=hY fun v vp l W' hv hs hl hp=>apply_ahead (v:=v) (vp:=vp) (l:=l) (W:=W') he2 hv hs hl hp HP.o
   by_cases hz2:e2=0
   case neg =>
    rw[if_neg hz2];have hne:(e2 != 0)=true:=by rw[bne_iff_ne];exact hz2
    have HZ:=hY hz2;clear he h h1 h2 h3 f3 h4 he2 hz2;go_enter Tryz.func12,Tryz.ntmps12
    go_wp2_with (first
     | (go_at_call 44;refine HG.o.mono ?_;rintro e w1 ⟨v1,rfl,ho1,R1,n1,rfl⟩;(have HO1:=hY ho1.low);clear ho1)
     | (go_at_call 47;refine(HA.o _ gw).mono ?_;rintro e w2 ⟨v2,l2,rfl,hn2,hs2,hp2,R2,n2,rfl⟩;(have HN2:=hY hn2);(have HS2:=hY hs2);(have HP2:=hY hp2);clear hn2 hs2 hp2)
     | (go_at_call 11;refine(HAP.o _ _ _ _ (HN2.o.grew gw) HS2.o HP2.o (HO1.o.at.grew gw)).mono ?_;rintro e w3 ⟨⟨R3,n3,rfl⟩,⟨-,i3,rfl⟩|⟨h0,-⟩⟩;rotate_left;exact absurd h0 HZ.o))
    go_ret;exact⟨rfl,H.o.grew gw,Leaves.grew gw,QKeep.grew gw⟩
   case pos =>
    subst hz2;rw[if_pos rfl];have HB:=hY h1;have H2:=hY h2;have H3:=hY h3;have HN:=hY hn2;clear he h h1 h2 h3 h4 he2 hn2;go_enter Tryz.func12,Tryz.ntmps12
    go_wp2_with (first
     | (go_at_call 44;refine HG.o.mono ?_;rintro e w1 ⟨v1,rfl,ho1,R1,n1,rfl⟩;(have HO1:=hY ho1.low);obtain⟨pa,pn,pc,rfl⟩:=ho1.form;clear ho1)
     | (go_at_call 47;refine(HA.o _ gw).mono ?_;rintro e w2 ⟨v2,l2,rfl,hn2,hs2,hp2,R2,n2,rfl⟩;(have HN2:=hY hn2);(have HS2:=hY hs2);(have HP2:=hY hp2);clear hn2 hs2 hp2)
     | (go_at_call 11;refine(HAP.o _ _ _ _ (HN2.o.grew gw) HS2.o HP2.o (HO1.o.at.grew gw)).mono ?_;rintro e w3 ⟨⟨R3,n3,rfl⟩,⟨h0,-⟩|⟨-,v3,rfl⟩⟩;exact absurd rfl h0)
     | (at_builtin;go_loud (obtain⟨qs,ho,hr⟩:=H3.o;refine wpList_ownK (w0:=w0) rfl (.tmp 43) (.tmp 45) 23 _ _ _ _ [(pa,pn,pc)] rfl Tryz.underlying23 infoSl rfl (by decide) encSl_len encSl_one rfl (OwnAt.grew ho gw) (H.o.g.trans gw) rfl (sl_at _ _ _ _ rfl (by simp[go_sem])) (by have:=HN.o;have:=Rel.len hr;simp;omega) (by decide) (by simp) ?_);intro v7 W7 hA;obtain⟨b9,c9,rfl⟩:=own_some' hA.2.1 (by simp);(have b7:=app_blk (W:=W) hA gw HB.o (ho.other HB.o (by decide)));(have HL7:=hY (Leaves.app (T:=[83,34]) (W:=W) (Leaves.grew gw) (OwnAt.grew ho gw) hA (by simp)));(have HS7:=hY (Leaves.app (T:=[34]) (W:=W) (Leaves.grew gw) (OwnAt.grew ho gw) hA (by simp)));(have HW7:=hY (Leaves.app (T:=[34]) (W:=W.more R1 n1) (Leaves.grew gw) (OwnAt.grew ho gw) hA (by simp)));(have HK7:Hid (W.heap.size≤W7.heap.size∧(∀b,b<W.heap.size→Value.ownBlock (.slice aq ps.length cq)≠some b→W7.heap[b]? = W.heap[b]?)∧∀b,Value.ownBlock (.slice (some ⟨b9,0,none⟩) (qs.length+1) c9)=some b→Value.ownBlock (.slice aq ps.length cq)=some b∨W.heap.size≤b):=hY ⟨Nat.le_trans (Grew.below (gw:Grew W _)).size hA.2.2.1,fun b hb hn=>(hA.2.2.2.1 b (Nat.lt_of_lt_of_le hb (Grew.below (gw:Grew W _)).size) hn).trans ((Grew.below (gw:Grew W _)).block b hb),fun b hb=>(hA.2.2.2.2 b hb).imp id fun h=>Nat.le_trans (Grew.below (gw:Grew W _)).size h⟩);(have HR7:=hY hr);(have HA7:=hY hA);(have B7:=hY b7);(have c7:=cell_of (o:=3) b7);(have f7:=frozen_of (o:=3) b7);(have p7:=Pre.mk (heap_lt b7));simp at c7;clear hA b7 ho hr))
    go_ret;have e7:=set_blk (o:=3) (v:=.slice (some ⟨b9,0,none⟩) (qs.length+1) c9) B7.out rfl;have hl7:Leaves [83] W7 (W7.setCell ⟨z,3,none⟩ (.slice (some ⟨b9,0,none⟩) (qs.length+1) c9)):=(Leaves.refl _ _).set B7.out (by simp);have hL:=(HL7.o.trans (hl7.mono (T':=[83,34]) (by simp)));have ho:=HA7.o.2.1;rw[List.length_append] at ho;have hT:NoData [83,34]:=by simp[NoData]
    have hp7:=(HO1.o.leaves HW7.o (by simp[NoData])).leaves hl7 (by simp[NoData]);refine⟨rfl,⟨⟨_,_,e7,H2.o.leaves hL hT (by simp),_,hl7.own ho (by decide),Rel.snoc (Rel.mono (fun _ _ q=>⟨q.1.leaves hL hT,q.2⟩) HR7.o) ⟨hp7,HP.o⟩⟩,H.o.ok,by have:=HN.o;simp;omega,H.o.z0,Grew.set HA7.o.1 H.o.z0 _⟩,hL,fun qv hq=>?_⟩;have c3:=cell_of (o:=3) HB.o;rw[hq] at c3;cases c3;obtain⟨k1,k2,k3⟩:=HK7.o;refine⟨by rw[World.size_setCell];exact k1,fun b hb hn ho=>(set_other fun e=>hn e.symm).trans (k2 b hb ho),_,cell_of e7,k3⟩
theorem sinkNew_any(w:World): Calls Tryz.prog 38 #[] w fun e w'=>∃bk mp:Nat,e = .returned (.pointer (some ⟨bk,0,none⟩))∧w'.heap[bk]? = some (.cells #[.slice none 0 0,.map (some mp),.int .i64 0] 155)∧Grew w w':=by
 have hmm:=@run_makeMap Tryz.prog;go_enter Tryz.func38,Tryz.ntmps38;go_wp2;go_ret;exact⟨_,_,rfl,heap_new_at _ _ _ (by simp[World.size_alloc]),gw⟩
theorem bookCommit_there{W:World}{bk:Nat}{lv mv v:Value}(h:W.heap[bk]? = some (.cells #[lv,mv,.int .i64 0] 155)): Calls Tryz.prog 104 #[.pointer (some ⟨bk,0,none⟩),.int .i64 0,v] W (Gives (.int .i64 13) W):=by
 have c2:=cell_of (o:=2) h;simp at c2;clear h;go_enter Tryz.func104,Tryz.ntmps104;go_wp2;go_ret;refine⟨rfl,?_⟩;exact gw
theorem coFollows_nil{W:World}{z:Nat}{cs:Array Value}{c:MfC}(hz:W.heap[z]? = some (.cells cs 83))(h2:cs[2]? = some (.slice none 0 0))(he:c.epoch=0)(hp:c.plans=0)(hx:c.nx=0)(hq:c.np=0)(hn:c.ne=0): Calls Tryz.prog 41 #[.pointer (some ⟨z,0,none⟩),.agg #[.int .i64 c.epoch,.int .i64 c.plans,.slice c.ao c.no c.co,.slice c.ag c.ng c.cg,.slice c.ae c.ne c.ce,.slice c.ax c.nx c.cx,.slice c.ap c.np c.cp]] W (Gives (.bool true) W):=by
 have c2:=(cell_of (o:=2) hz).trans h2;have hb:Pre z W:=heap_lt hz;obtain⟨ep,pl,ao,no,co,ag,ng,cg,ae,ne,ce,ax,nx,cx,ap,np,cp⟩:=c;simp only at he hp hx hq hn;subst he hp hx hq hn;clear hz h2;go_enter Tryz.func41,Tryz.ntmps41;go_wp2;go_ret;refine⟨rfl,?_⟩;exact gw
def IsOneM(c:MfC)(v:Value)(w:World): Prop:=∃b:Nat,v = .slice (some ⟨b,0,none⟩) 1 1∧∀j u,([c].flatMap encMh)[j]? = some u→w.cell? ⟨b,j,none⟩=some u
theorem IsOneM.st(c:MfC): ∀v w w',IsOneM c v w→Grew w w'→IsOneM c v w':=fun _ _ _ ⟨b,h1,h2⟩ g=>⟨b,h1,fun j u hu=>below_keeps g.below _ _ (h2 j u hu)⟩
def IsHs(base:Nat)(c:MfC)(v:Value)(w:World): Prop:=∃(b cap:Nat),v = .slice (some ⟨b,0,none⟩) 1 cap∧OwnAt base 47 7 encMh w v [c]
theorem IsHs.st(base:Nat)(c:MfC): ∀v w w',IsHs base c v w→Grew w w'→IsHs base c v w':=fun _ _ _ ⟨b,cap,h1,h2⟩ g=>⟨b,cap,h1,h2.grew g⟩
theorem infoMh:(Tryz.prog.info? 47).map (fun i=>(i.zero,i.size,i.bytes))=some (some (.agg #[.int .i64 0,.int .i64 0,.slice none 0 0,.slice none 0 0,.slice none 0 0,.slice none 0 0,.slice none 0 0]),7,136):=by kernel_rfl
theorem mh_at(W:World)(x:MfC)(t:TypeId)(b:Nat){c:Array Value}(hc:c=(encMh x).toArray)(hb:b=W.heap.size): ∀j u,(([x]:List MfC).flatMap encMh)[j]? = some u→(W.alloc (.cells c t)).cell? ⟨b,j,none⟩=some u:=by
 subst hc;intro j u hu;rw[new_cells W _ t b hb j];simpa using hu
theorem coHolds_first{w0 W:World}{z bk lg mp:Nat}{c:MfC}{m:Gr.Mf}(h1:W.heap[z]? = some (.cells #[.pointer (some ⟨bk,0,none⟩),.pointer (some ⟨lg,0,none⟩),.slice none 0 0,.slice none 0 0,.pointer none,.bool false,.int .i64 0,.int .i64 0] 83))
  (hk:W.heap[bk]? = some (.cells #[.slice none 0 0,.map (some mp),.int .i64 0] 155)) (hm:MfOwn 0 W c m) (he:c.epoch=0) (ok:OkH m) (hg:Grew w0 W) (hz:w0.heap.size≤z) :
  Calls Tryz.prog 42 #[.pointer (some ⟨z,0,none⟩),.agg #[.int .i64 c.epoch,.int .i64 c.plans,.slice c.ao c.no c.co,.slice c.ag c.ng c.cg,.slice c.ae c.ne c.ce,.slice c.ax c.nx c.cx,.slice c.ap c.np c.cp]] W fun e W'=>e = .returned (.tuple #[])∧CoAt w0 W' z bk lg [] m [] (.pointer none) false 0 0∧Leaves [83] W W':=by
 have c2:=cell_of (o:=2) h1;have f2:=frozen_of (o:=2) h1;simp at c2;have hb:Pre z W:=heap_lt h1;have H1:=hY h1;have HK:=hY hk;have HM:=hY hm;have HOK:=hY ok;have HG:=hY hg;have HZ:=hY hz;have HC:=hY (rfl:c=c);obtain⟨ep,pl,ao,no,co,ag,ng,cg,ae,ne,ce,ax,nx,cx,ap,np,cp⟩:=c;simp only at he;subst he;clear h1 hk hm ok hg hz;go_enter Tryz.func42,Tryz.ntmps42
 go_wp2_with fail
 refine wp_region_seq 8 Tryz.mixed (by kernel_rfl) (by kernel_rfl) ?_
 iterate 6
  apply Seq.val
  focus
   rintro w1 u ⟨R1,n1,rfl⟩ hF;simp[moreFacts,Fact.more,Oper.deps,Region.binds,List.filter_cons,World.more_drew] at hF;simp[putFacts,Oper.deps,Region.binds,List.filter_cons,Region.dstOf,Fact.at,Act.put,World.more_drew];go_wp2;exact⟨gw,rfl,_,_,rfl,rfl,rfl⟩
 apply Seq.of (IsOneM ⟨0,pl,ao,no,co,ag,ng,cg,ae,ne,ce,ax,nx,cx,ap,np,cp⟩) (IsOneM.st _)
 focus
  rintro w1 u ⟨R1,n1,rfl⟩ hF;simp[moreFacts,Fact.more,Oper.deps,Region.binds,List.filter_cons,World.more_drew] at hF;simp[putFacts,Oper.deps,Region.binds,List.filter_cons,Region.dstOf,Fact.at,Act.put,World.more_drew]
  go_wp2_with fail
  exact⟨gw,rfl,_,_,rfl,rfl,⟨_,rfl,mh_at _ _ _ _ rfl (by simp[go_sem])⟩⟩
 apply Seq.of (IsHs w0.heap.size ⟨0,pl,ao,no,co,ag,ng,cg,ae,ne,ce,ax,nx,cx,ap,np,cp⟩) (IsHs.st _ _)
 focus
  rintro w1 u ⟨R1,n1,rfl⟩ hF;simp[moreFacts,Fact.more,Oper.deps,Region.binds,List.filter_cons,World.more_drew] at hF;simp[putFacts,Oper.deps,Region.binds,List.filter_cons,Region.dstOf,Fact.at,Act.put,World.more_drew];obtain⟨b9,hu,hb9⟩:=hF;rw[hu];(have HB9:=hY hb9);clear hb9 hu
  go_wp2_with (first
   | (at_builtin;go_loud (refine wpList_own1 rfl (.tmp 8) (.tmp 10) 60 _ _ _ b9 ⟨0,pl,ao,no,co,ag,ng,cg,ae,ne,ce,ax,nx,cx,ap,np,cp⟩ rfl Tryz.underlying60 infoMh rfl (by decide) encMh_len encMh_one rfl (OwnAt.nil _) (Grew.refl _) rfl (fun j u hu=>HB9.o j u (by simpa using hu)) (by simp) (by decide) ?_);intro v7 R7 N7 ho7;obtain⟨b8,c8,rfl⟩:=own_some' ho7 (by simp);(have HX9:Hid (IsHs w0.heap.size ⟨0,pl,ao,no,co,ag,ng,cg,ae,ne,ce,ax,nx,cx,ap,np,cp⟩ _ _):=hY ⟨b8,c8,rfl,OwnAt.low ho7 (HG.o.trans gw).below.size⟩);clear ho7)
   )
  exact⟨gw,rfl,_,_,rfl,rfl,HX9.o⟩
 rintro u w1 ⟨R1,n1,rfl⟩ hF;simp[moreFacts,apartFacts,Fact.more,Fact.isNew,List.range_succ,World.more_drew] at hF;obtain⟨-,b8,c8,hu,ho8⟩:=hF;simp[putFacts,Region.dstOf,Fact.at,Act.put,List.range_succ,World.more_drew];rw[hu];rw[hu] at ho8;have HO8:=hY ho8;clear hu ho8
 go_wp2_with fail
 have e2:=set_blk (o:=2) (v:=(.slice (some ⟨b8,0,none⟩) 1 c8)) H1.o rfl;have hl2:=(Leaves.refl [83] W).set (o:=2) (v:=(.slice (some ⟨b8,0,none⟩) 1 c8)) H1.o (by simp);have ht2:Twin 83 W (W.setCell ⟨z,2,none⟩ (.slice (some ⟨b8,0,none⟩) 1 c8)):=⟨hl2,by simp[World.size_setCell]⟩;have hg2:=HG.o.set (o:=2) HZ.o (.slice (some ⟨b8,0,none⟩) 1 c8);clear c2 f2 hb;obtain⟨bx,hbx⟩:∃bx:Obj,(.cells #[.int .i64 0,.int .i64 pl,.slice ao no co,.slice ag ng cg,.slice ae ne ce,.slice ax nx cx,.slice ap np cp] 47)=bx:=⟨_,rfl⟩;rw[hbx] at HO8;rw[hbx];generalize W.setCell ⟨z,2,none⟩ (.slice (some ⟨b8,0,none⟩) 1 c8)=WS at *;have ho9:=((ht2.alloc bx).more R1 n1).1.own HO8.o (by decide);have hb9:(WS.alloc bx).heap[W.heap.size]? = some bx:=heap_new_at _ _ _ ht2.2;have hz9:=grew_heap (gw:Grew (WS.alloc bx) ((WS.alloc bx).more R1 n1)) (heap_alloc' e2 bx);have hk9:=grew_heap (gw:Grew (WS.alloc bx) ((WS.alloc bx).more R1 n1)) (heap_alloc' (hl2.at HK.o (by decide)) bx);have hg9:Grew w0 ((WS.alloc bx).more R1 n1):=hg2.trans gw;have hl9:Leaves [83] W ((WS.alloc bx).more R1 n1):=hl2.trans (Leaves.grew gw);have hm9:=HM.o.leaves hl9 (by simp[NoData]);have hb9:=grew_heap (gw:Grew (WS.alloc bx) ((WS.alloc bx).more R1 n1)) hb9;obtain⟨tb,htb⟩:∃tb,W.heap.size=tb:=⟨_,rfl⟩;rw[htb] at hb9 ⊢;clear htb ht2 hl2 hg2 e2;generalize (WS.alloc bx).more R1 n1=WB at *;rw[←hbx] at hb9;clear hbx;have HZ9:=hY hz9;have HK9:=hY hk9;have HO9:=hY ho9;have HG9:=hY hg9;have HL9:=hY hl9;have HM9:=hY hm9;have c6:=cell_of (o:=6) hz9;have f6:=frozen_of (o:=6) hz9;have t0:=cell_of (o:=0) hb9;simp at c6 t0;have hbz:Pre z WB:=heap_lt hz9;have hbt:Pre tb WB:=heap_lt hb9;have HB9:=hY hb9;clear hz9 hk9 ho9 hg9 hl9 hm9 hb9;have hmx:=run_max Tryz.prog;refine wp_region_seq 8 Tryz.mixed (by kernel_rfl) (by kernel_rfl) ?_
 iterate 8
  apply Seq.val
  focus
   rintro w1 u ⟨R1,n1,rfl⟩ hF;simp[moreFacts,Fact.more,Oper.deps,Region.binds,List.filter_cons,World.more_drew] at hF;simp[putFacts,Oper.deps,Region.binds,List.filter_cons,Region.dstOf,Fact.at,Act.put,World.more_drew];go_wp2;exact⟨gw,rfl,_,_,rfl,rfl,rfl⟩
 rintro u w1 ⟨R1,n1,rfl⟩ hF;clear hF;simp[putFacts,Region.dstOf,Fact.at,Act.put,List.range_succ,World.more_drew]
 go_wp2_with fail
 have e6:=set_blk (o:=6) (v:=.int .i64 0) HZ9.o rfl;have hl6:=(Leaves.refl [83] WB).set (o:=6) (v:=.int .i64 0) HZ9.o (by simp);have hg6:=HG9.o.set (o:=6) HZ.o (.int .i64 0);clear c6 f6 t0 hbz hbt hmx;generalize WB.setCell ⟨z,6,none⟩ (.int .i64 0)=WC at *;have hb6:=hl6.at HB9.o (by decide);have c0:=cell_of (o:=0) e6;have t0:=cell_of (o:=0) hb6;have t5:=cell_of (o:=5) hb6;simp at c0 t0 t5;have hbz:Pre z WC:=heap_lt e6;have hbt:Pre tb WC:=heap_lt hb6;have HE6:=hY e6;have HL6:=hY hl6;have HG6:=hY hg6;have HCM:=hY fun v W' (g:Grew WC W')=>bookCommit_there (v:=v) (grew_heap g (hl6.at HK9.o (by decide)))
 clear e6 hl6 hg6 hb6;refine wp_region_seq 8 Tryz.mixed (by kernel_rfl) (by kernel_rfl) ?_
 iterate 8
  apply Seq.val
  focus
   rintro w1 u ⟨R1,n1,rfl⟩ hF;simp[moreFacts,Fact.more,Oper.deps,Region.binds,List.filter_cons,World.more_drew] at hF;simp[putFacts,Oper.deps,Region.binds,List.filter_cons,Region.dstOf,Fact.at,Act.put,World.more_drew];go_wp2;exact⟨gw,rfl,_,_,rfl,rfl,rfl⟩
 rintro u w1 ⟨R1,n1,rfl⟩ hF;clear hF;simp[putFacts,Region.dstOf,Fact.at,Act.put,List.range_succ,World.more_drew]
 go_wp2_with (go_at_call 104;refine(HCM.o _ _ gw).mono ?_;rintro e w5 ⟨rfl,R5,n5,rfl⟩)
 have hT:NoData [83]:=by simp[NoData]
 refine bodyPost_end (v:=.tuple #[]) (results_none rfl _ _ _) rfl ⟨rfl,⟨⟨_,_,grew_heap gw HE6.o,⟨[_],OwnAt.grew (HL6.o.own HO9.o (by decide)) gw,(HM9.o.leaves HL6.o hT).grew gw,trivial⟩,[],OwnAt.nil _,trivial⟩,HOK.o,by simp,HZ.o,HG6.o.trans gw⟩,(HL9.o.trans HL6.o).trans (Leaves.grew gw)⟩
theorem cloneSl_any{W:World}{a:Addr}{n cap:Nat}{xs:List SlC}(h:RowsAt 1 encSl W (.slice (some a) n cap) xs)(hn:xs.length≤1000): Calls Tryz.prog 53 #[.slice (some a) n cap] W fun e W'=>∃v,e = .returned v∧OwnAt W.heap.size 34 1 encSl W' v xs∧Grew W W':=by
 obtain rfl:n=xs.length:=by obtain⟨a',c',e,-⟩:=h;cases e;rfl
 have hq:∀W:World,(binOp BinOp.eql 23 (.slice (some a) xs.length cap) (.slice none 0 0)).run Tryz.prog W = .ok (.bool false) W:=fun W=>by kernel_rfl
 have H:=hY h;have HN:=hY hn;clear h hn;go_enter Tryz.func53,Tryz.ntmps53
 go_wp2_with (at_builtin;go_loud (refine wpList_ownM (w0:=W) rfl (.tmp 5) (.tmp 6) 23 _ _ _ xs rfl Tryz.underlying23 infoSl rfl (by decide) encSl_len encSl_one rfl (OwnAt.lit _ _ rfl (Nat.le_refl _)) gw rfl (H.o.grew gw) (.inr ⟨a,cap,rfl⟩) (by have:=HN.o;simp;omega) (by decide) ?_);intro v7 R7 N7 hA _;(have HA7:=hY hA);clear hA)
 go_ret;exact⟨v7,rfl,by simpa using HA7.o,gw⟩
theorem own_sl{α:Type}{base:Nat}{e:TypeId}{k:Nat}{enc:α→List Value}{w:World}{v:Value}{l:List α}(h:OwnAt base e k enc w v l): ∃a n c,v = .slice a n c:=by
 rcases h.form with ⟨h,-⟩|⟨b,c,h,-⟩
 ·exact⟨_,_,_,h⟩
 ·exact⟨_,_,_,h⟩
structure WithSt (w0 W wr:World) (z bk lg:Nat) (ms:List Gr.Mf) (m:Gr.Mf) (ps:List (List Gr.Stp)) (uv:Value) (pl:Bool) (last ref:Int):Prop where
 blk:∃hv qv,wr.heap[z]? = some (.cells #[.pointer (some ⟨bk,0,none⟩),.pointer (some ⟨lg,0,none⟩),hv,qv,uv,.bool pl,.int .i64 last,.int .i64 ref] 83)∧HistAt w0.heap.size wr hv (ms++[m])∧QueueAt W.heap.size wr qv ps
 old:Keep z W wr
 l:Leaves [83,34] W wr
 g:Grew w0 wr
 s:W.heap.size≤wr.heap.size
theorem WithSt.grew{w0 W wr wx:World}{z bk lg:Nat}{ms:List Gr.Mf}{m:Gr.Mf}{ps:List (List Gr.Stp)}{uv:Value}{pl:Bool}{last ref:Int}(h:WithSt w0 W wr z bk lg ms m ps uv pl last ref)(g:Grew wr wx)(hb:True:=trivial): WithSt w0 W wx z bk lg ms m ps uv pl last ref:=by
 obtain⟨hv,qv,h1,h2,h3⟩:=h.blk;exact⟨⟨hv,qv,grew_heap g h1,h2.grew g,h3.grew g⟩,h.old.trans (Keep.ofGrew g),h.l.trans (Leaves.grew g),h.g.trans g,Nat.le_trans h.s g.below.size⟩
end Go.Proofs.YtipgfjihdglocaaGreat
