import Derived.Test.YtipgfjihdglocaaGreatCw8
import Derived.Test.YtipgfjihdglocaaGreatCw6
import Derived.Test.YtipgfjihdglocaaGreatCw11
import Derived.OwnWalk
import Derived.Laws.CopyOwn
import Derived.Deep.RegionLaw
import Derived.Test.YtipgfjihdglocaaGreatCw5
import Derived.DeepKeys4
import Derived.DeepKeys5
import Derived.Maps.Views
import Derived.Deep.DeepCutAuto
import Derived.Deep.CutBlock
import Derived.Deep.LoopGhost
import Derived.StillTailTactics
import Derived.Deep.QuietTactic
import Derived.BigQuiet
import Derived.Deep.RegionHeld3
set_option linter.unusedSimpArgs false
set_option linter.unusedVariables false
set_option maxRecDepth 100000
set_option maxHeartbeats 64000000
namespace Go.Proofs.YtipgfjihdglocaaGreat
open Go.RowKit Ga
def filled(d:Int)(n m:Nat): List Value:=List.replicate m (.int .i64 d)++List.replicate (n-m) (.int .i64 0)
theorem filled_splice(d:Int)(n m c:Nat)(h:m+c≤n): splice (filled d n m) m (List.replicate c (.int .i64 d))=filled d n (m+c):=by
 unfold splice filled;rw[List.take_append_of_le_length (by simp)];apply List.ext_getElem?;intro i;simp only[List.length_replicate];grind
theorem filled_len(d:Int)(n m:Nat)(h:m≤n): (filled d n m).length=n:=by unfold filled;simp;omega
theorem filled_all(d:Int)(n:Nat): (filled d n n).toArray=ints (List.replicate n d):=by
 unfold filled ints;simp
theorem infoInt:(Tryz.prog.info? 3).map (fun i=>(i.zero,i.size,i.bytes))=some (some (.int .i64 0),1,8):=by kernel_rfl
theorem sizeInt:(Tryz.prog.info? 3).map (·.size)=some 1:=by kernel_rfl
theorem made_filled(d:Int)(n:Nat): (madeCells (Value.int .i64 0).cells (n*1))=(filled d n 0).toArray:=by
 unfold madeCells filled;apply Array.ext
 ·simp
 ·intro i h1 h2;simp[Value.cells,Nat.mod_one]
theorem own_block_of{W:World}{base e n:Nat}{g:Nat}{xs:List Value}(h:W.ownsRow base e 1 (.slice (some ⟨g,0,none⟩) n n) n xs): W.heap[g]? = some (.cells xs.toArray e):=by
 obtain⟨h1,h2⟩:=h;rcases h2 with ⟨h,_⟩|⟨g',cap,cur,hv,hb,hh,hc,hm,hs,ht⟩
 ·cases h
 ·cases hv;rw[hh]
  have:cur=xs.toArray:=by
   rw[←ht,List.take_of_length_le (by simp[hs])]
  rw[this]
theorem rep_one(d:Int)(c:Nat): ∀v∈List.replicate c (Value.int .i64 d),v.oneCell'=true:=by
 intro v hv;rw[(List.mem_replicate.1 hv).2];rfl
theorem rep_fit{d:Int}{n m c:Nat}(h:m+c≤n): m+(List.replicate c (Value.int .i64 d)).length≤(filled d n m).length:=by
 rw[filled_len d n m (by omega),List.length_replicate];exact h
theorem rep_src1{w:World}{b g:Nat}{d:Int}{c:Nat}(h:w.cell? ⟨b,0,none⟩=some (.int .i64 d))(h1:c≤1): 0<(List.replicate c (Value.int .i64 d)).length→some (⟨g,0,none⟩:Addr)=some ⟨g,0,none⟩∧∃ad,some (⟨b,0,none⟩:Addr)=some ad∧∀j v,(List.replicate c (Value.int .i64 d))[j]? = some v→w.cell? (ad.add j)=some v:=by
 intro _;refine⟨rfl,_,rfl,fun j v hv=>?_⟩;rw[List.getElem?_replicate] at hv;split at hv
 ·cases hv;obtain rfl:j=0:=by omega
  exact h
 ·cases hv
theorem rep_src{w:World}{g:Nat}{d:Int}{n m c:Nat}(h:w.heap[g]? = some (.cells (filled d n m).toArray 3))(hc:c≤m): 0<(List.replicate c (Value.int .i64 d)).length→some (⟨g,m,none⟩:Addr)=some ⟨g,m,none⟩∧∃ad,some (⟨g,0,none⟩:Addr)=some ad∧∀j v,(List.replicate c (Value.int .i64 d))[j]? = some v→w.cell? (ad.add j)=some v:=by
 intro _;refine⟨rfl,_,rfl,fun j v hv=>?_⟩;rw[List.getElem?_replicate] at hv;split at hv
 ·cases hv;rw[addr_add_zero,cell_of h,List.getElem?_toArray];unfold filled;rw[List.getElem?_append_left (by simp;omega),List.getElem?_replicate,if_pos (by omega)]
 ·cases hv
theorem repeat_any(d:Int)(n:Nat)(hn:n≤24)(w:World)(b:Nat)(hc:w.cell? ⟨b,0,none⟩=some (.int .i64 d)):
  Calls Tryz.prog 200 #[.slice (some ⟨b,0,none⟩) 1 1,.int .i64 n] w fun e w'=>∃g,e = .returned (.slice (some ⟨g,0,none⟩) n n)∧w.heap.size≤g∧w'.heap[g]? = some (.cells (ints (List.replicate n d)) 3)∧Grew w w':=by
 obtain⟨i0,hi,hz0,hz1,hz2⟩:=info_parts infoInt;have hM:=fun w=>(Tryz.bits_Mul 1 n (by omega) (by omega) w).mono fun e w' h=>(⟨h.1,h.2.symm⟩:_∧w=w')
 have HM:=hY hM;clear hM;go_enter Tryz.func200,Tryz.ntmps200
 go_wp2_with (first
  | (go_at_call 225;refine(HM.o _).mono ?_;rintro e w1 ⟨rfl,rfl⟩)
  | (at_make;refine wpList_make_full _ rfl (.tmp 29) (.tmp 29) 43 rfl w.heap.size 3 i0 (.int .i64 0) 1 Tryz.underlying43 hi hz0 hz1 .i64 .i64 _ _ n rfl rfl (by omega) (by omega) (by rw[hz2];omega) (by unfold maxLen;omega) (Nat.le_refl _) ?_;intro w2 hown2 hgr2;(have hb2:=own_block_of hown2);(have hgw:Grew w w2:=(Grew.refl w).grown hgr2 (by intro k hk;cases hk));rw[show(madeCells (Value.int .i64 0).cells (n*1)).toList=filled d n 0 by rw[made_filled d]] at hb2;(have HB2:=hY hb2);(have HGW:=hY hgw);clear hown2 hgr2 hb2 hgw)
  | (with_reducible refine wpList_copy_splice rfl (.tmp 31) (.tmp 32) 43 43 rfl 3 Tryz.underlying43 sizeInt (some ⟨w.heap.size,0,none⟩) (some ⟨b,0,none⟩) n n 1 1 rfl rfl w.heap.size 0 (filled d n 0) 3 HB2.o (List.replicate (min 1 n) (.int .i64 d)) List.length_replicate (rep_src1 (cell_grew hc HGW.o) (Nat.min_le_left _ _)) (rep_fit (by omega)) (rep_one _ _) w.heap.size w HGW.o.below (Nat.le_refl _) ?_;intro w4 hg4 hb4;rw[filled_splice d n 0 (min 1 n) (by omega),Nat.zero_add] at hg4;rw[List.length_replicate])
  )
 go_loopw [8] (fun i wr=>∃m:Nat,m≤n∧(0<n→0<m)∧i = .int .i64 m∧wr.heap[w.heap.size]? = some (.cells (filled d n m).toArray 3)∧Grew w wr) (fun i _=>n-(intOf i).toNat)
 case atStart=>exact⟨min 1 n,Nat.min_le_right _ _,by omega,rfl,hg4.out,Grew.ofBelow hb4⟩
 case round =>
  obtain⟨m,hm,hm0,rfl,hbm,hgm⟩:=hrel;by_cases hlt:m<n
  ·have hm1:0<m:=hm0 (by omega);have HBM:=hY hbm;have HGM:=hY hgm;clear hbm hgm hm0 hg4 hb4;obtain⟨c,hcd,hcm,hcn,hc0⟩:∃c,c=Nat.min m (n-m)∧c≤m∧m+c≤n∧0<c:=⟨_,rfl,Nat.min_le_left _ _,by have:min m (n-m)=Nat.min m (n-m):=rfl;omega,by have:min m (n-m)=Nat.min m (n-m):=rfl;omega⟩;have HCD:=hY hcd;clear hcd;have hwr:IntKind.i64.wrap ((m:Int)+c)=m+c:=IntWalk.i64_in _ (by omega);go_wp2
   go_region_law (refine step_copy_splice rfl (.tmp 41) (.tmp 44) 43 43 rfl 3 Tryz.underlying43 sizeInt (some ⟨w.heap.size,m,none⟩) (some ⟨w.heap.size,0,none⟩) (n-m) (n-m) m n (by simp[Act.eval,Act.put];omega) (by simp[Act.eval,Act.put]) w.heap.size m (filled d n m) 3 HBM.o (List.replicate c (.int .i64 d)) (List.length_replicate.trans HCD.o) (rep_src HBM.o hcm) (rep_fit hcn) (rep_one _ _) w.heap.size w HGM.o.drew.below (Nat.le_refl _) ?_;intro w5 hg5 hb5;rw[filled_splice d n m c hcn] at hg5;rw[List.length_replicate];simp only[goInt])
   all_goals
    go_wp2
    go_roundw
    case rel=>exact⟨m+c,hcn,by omega,by go_num,hg5.out,Grew.ofBelow hb5⟩
    case measure=>first|(simp[intOf];done)|(simp[intOf];omega)
  ·obtain rfl:m=n:=by omega
   rw[filled_all] at hbm;have HBM:=hY hbm;clear hbm;go_wp2;go_ret;exact⟨_,rfl,Nat.le_refl _,HBM.o,hgm⟩
def ZerosAt(base n:Nat)(v:Value)(w:World): Prop:=∃g,v = .slice (some ⟨g,0,none⟩) n n∧base≤g∧w.heap[g]? = some (.cells (ints (List.replicate n 0)) 3)
theorem ZerosAt.st(base n:Nat): ∀v w w',ZerosAt base n v w→Grew w w'→ZerosAt base n v w':=fun _ _ _ ⟨g,h1,h2,h3⟩ k=>⟨g,h1,h2,grew_heap k h3⟩
def EffV(base:Nat)(v:Value)(w:World): Prop:=∃bm,v = .map (some bm)∧base≤bm∧EffAt w bm
theorem EffV.st(base:Nat): ∀v w w',EffV base v w→Grew w w'→EffV base v w':=fun _ _ _ ⟨g,h1,h2,h3⟩ k=>⟨g,h1,h2,h3.grew k⟩
theorem filled_zero(n:Nat): (filled 0 n 0).toArray=ints (List.replicate n 0):=by unfold filled ints;simp
theorem EffAt.ne{W:World}{bm g:Nat}{c:Array Value}{t:TypeId}(h:EffAt W bm)(hg:W.heap[g]? = some (.cells c t)): g≠bm:=by
 rintro rfl;obtain⟨es,k,h1,_⟩:=h;rw[hg] at h1;cases h1
def RepAt(w:World)(v:Value)(s:Vm.Cst): Prop:=∃g c,v = .agg #[.slice (some ⟨g,0,none⟩) s.depth.length c,.int .i64 s.mx,.int .i64 s.em,.bool s.u0,.bool s.u1]∧w.heap[g]? = some (.cells (ints s.depth) 3)
def CheckGives(l:List Val)(w:World)(e:Ending)(w':World): Prop :=
 Grew w w'∧match Vm.checkC l with
  | none=>e = .returned (.tuple #[.agg #[.slice none 0 0,.int .i64 0,.int .i64 0,.bool false,.bool false],.int .i64 9])
  | some s=>∃v,e = .returned (.tuple #[v,.int .i64 0])∧RepAt w' v s
theorem come0_any(w0 W:World)(B bd be bm cd ce:Nat)(vp:Value)(n:Nat)(s:Vm.Cst)(hs:WalkAt w0.heap.size B bd be bm cd ce vp n W s)(hg:Grew w0 W)(hvp:∃a c,vp = .slice a n c)(hn:n≤24):
  Calls Tryz.prog 201 #[.pointer (some ⟨B,0,none⟩),.int .i64 0,.int .i64 0,.int .i64 0] W fun r W'=>r = .returned (.bool (Vm.come n s 0 0 0).2)∧Came w0 B bd be bm cd ce vp n W (Vm.come n s 0 0 0).1 W' :=
 come_any w0 W B bd be bm cd ce vp n s 0 0 0 hs hg hvp (Nat.zero_le _) hn
theorem start_eq(n:Nat): (Vm.come n ⟨List.replicate n (-1),List.replicate n 0,0,0,false,false⟩ 0 0 0).1=Vm.start n:=rfl
theorem check_any(v:Value)(l:List Val)(w:World)(hv:ValsAt w v l): Calls Tryz.prog 169 #[v] w (CheckGives l w):=by
 obtain⟨a,cap,rfl,hm,hl⟩:=hv.open2;have HV:=hY hv;clear hv hl;cases hf:Co.fitsI l
 ·have hc:Vm.checkC l=none:=by unfold Vm.checkC;rw[hf];rfl
  have HC:=hY hc;have HF:=hY hf;clear hc hf;go_enter Tryz.func169,Tryz.ntmps169
  go_wp2_with (go_at_call 191;refine(codeFits_any _ l _ (HV.o.grew gw)).mono ?_;rintro e w1 ⟨rfl,R3,n3,rfl⟩;rw[HF.o])
  refine bodyPost_ret (v:=.tuple #[.agg #[.slice none 0 0,.int .i64 0,.int .i64 0,.bool false,.bool false],.int .i64 9]) (by simp[results,Tryz.results169,go_sem]) rfl ⟨gw,?_⟩;rw[HC.o]
 ·have h24:l.length≤24:=(Co.fits_parts hf).1;have hr:=(Co.fits_parts hf).2;have hcc:Vm.checkC l=Vm.goC l l 0 (Vm.start l.length):=by unfold Vm.checkC;rw[hf];rfl
  obtain⟨cc,hcd⟩:∃cc,cc=Vm.checkC l:=⟨_,rfl⟩;have HCC:=hY (hcd.trans hcc);have HCD:=hY hcd;have HF:=hY hf;have HR:=hY hr;clear hcc hcd hf hr;go_enter Tryz.func169,Tryz.ntmps169
  go_wp2_with (go_at_call 191;refine(codeFits_any _ l _ (HV.o.grew gw)).mono ?_;rintro e w1 ⟨rfl,R3,n3,rfl⟩;rw[HF.o])
  refine wp_region_seq 5 Tryz.mixed (by kernel_rfl) (by kernel_rfl) ?_
  iterate 3
   apply Seq.val
   focus
    rintro w1 u ⟨R1,n1,rfl⟩ hF;simp[moreFacts,Fact.more,Oper.deps,Region.binds,List.filter_cons,World.more_drew] at hF;simp[putFacts,Oper.deps,Region.binds,List.filter_cons,Region.dstOf,Fact.at,Act.put,World.more_drew];go_wp2;exact⟨gw,rfl,_,_,rfl,rfl,rfl⟩
  obtain⟨i0,hi,hz0,hz1,hz2⟩:=info_parts infoInt;apply Seq.of (ZerosAt w.heap.size l.length) (ZerosAt.st _ _)
  focus
   rintro w1 u ⟨R1,n1,rfl⟩ hF;simp[moreFacts,Fact.more,Oper.deps,Region.binds,List.filter_cons,World.more_drew] at hF;simp[putFacts,Oper.deps,Region.binds,List.filter_cons,Region.dstOf,Fact.at,Act.put,World.more_drew]
   go_wp2_with (at_make;refine wpList_make_full _ rfl (.tmp 12) (.tmp 12) 43 rfl w.heap.size 3 i0 (.int .i64 0) 1 Tryz.underlying43 hi hz0 hz1 .i64 .i64 _ _ l.length rfl rfl rfl rfl (by rw[hz2];omega) (by unfold maxLen;omega) (by simp[go_sem];omega) ?_;intro w2 hown2 hgr2;(have hb2:=own_block_of hown2);(have hgw:=(Grew.refl _).grown hgr2 (by intro k hk;cases hk));rw[show(madeCells (Value.int .i64 0).cells (l.length*1)).toList=filled 0 l.length 0 by rw[made_filled 0],filled_zero] at hb2;(have HB2:=hY hb2);(have HGW:=hY hgw);clear hown2 hgr2 hb2 hgw)
   exact⟨HGW.o,rfl,_,_,rfl,rfl,_,rfl,by omega,by simpa [World.size_alloc,World.more_size] using HB2.o⟩
  apply Seq.of (EffV w.heap.size) (EffV.st _)
  focus
   rintro w1 u ⟨R1,n1,rfl⟩ hF;simp[moreFacts,Fact.more,Oper.deps,Region.binds,List.filter_cons,World.more_drew] at hF;simp[putFacts,Oper.deps,Region.binds,List.filter_cons,Region.dstOf,Fact.at,Act.put,World.more_drew]
   go_wp2_with (go_at_call 199;refine(effects_any _).mono ?_;rintro e w1 ⟨bm,rfl,hbm,heff,R4,n4,rfl⟩;(have HEF:=hY heff);clear heff;simp[go_sem] at hbm)
   exact⟨gw,rfl,_,_,rfl,rfl,_,rfl,by first|(simp[go_sem] at hbm;omega)|omega,HEF.o⟩
  rintro u w1 ⟨R1,n1,rfl⟩ hF;simp[moreFacts,apartFacts,Fact.more,Fact.isNew,List.range_succ,World.more_drew] at hF;obtain⟨⟨be,e3,hbe,hcE⟩,⟨bm,e4,hbm,heff⟩⟩:=hF;simp[putFacts,Region.dstOf,Fact.at,Act.put,List.range_succ,World.more_drew,e3,e4];have hne:=heff.ne hcE;have HE:=hY hcE;have HEF:=hY heff;clear e3 e4 hcE heff
  go_wp2_with (go_at_call 200;refine(repeat_any (-1) l.length h24 _ _ (new_cells _ _ _ _ (by simp[go_sem]) 0)).mono ?_;rintro e w1 ⟨bd,rfl,hbd,hcD,R4,n4,rfl⟩;(have HD:=hY hcD);clear hcD;simp[go_sem] at hbd)
  obtain⟨W,hW⟩:∃W,W=((((((w.alloc (.cells #[.slice none 0 0,.int .i64 0,.int .i64 0,.bool false,.bool false] 240)).more R3 n3).more R1 n1).alloc (.cells #[.slice (some ⟨bd,0,none⟩) l.length l.length,.int .i64 0,.int .i64 0,.bool false,.bool false,.slice a l.length cap,.slice (some ⟨be,0,none⟩) l.length l.length,.map (some bm)] 276)).alloc (.cells #[.int .i64 (-1)] 3)).more R4 n4):=⟨_,rfl⟩;rw[←hW];have h4:Grew (((w.alloc (.cells #[.slice none 0 0,.int .i64 0,.int .i64 0,.bool false,.bool false] 240)).more R3 n3).more R1 n1) W:=by rw[hW];exact gw
  have hgW:Grew w W:=by rw[hW];exact gw
  have lE:be<w.heap.size+1+R3.size+R1.size:=by have:=heap_lt HE.o;simp[World.size_alloc,World.more_size] at this;omega
  have lM:bm<w.heap.size+1+R3.size+R1.size:=by have:=HEF.o.lt;simp[World.size_alloc,World.more_size] at this;omega
  obtain⟨B,hB⟩:∃B,B=w.heap.size+1+R3.size+R1.size:=⟨_,rfl⟩
  have hwalk:WalkAt w.heap.size B bd be bm l.length l.length (.slice a l.length cap) l.length W ⟨List.replicate l.length (-1),List.replicate l.length 0,0,0,false,false⟩:={
   hB:=by omega
   hd:=by omega
   he:=by omega
   n1:=by omega
   n2:=by omega
   n3:=by omega
   m1:=by omega
   m2:=by omega
   m3:=hne
   cB:=by rw[hW];exact grew_heap gw (heap_alloc' (heap_new_at _ _ _ (by simp[World.size_alloc,World.more_size];omega)) _)
   cD:=by
    have h6:=HD.o;rw[heap_more_in _ _ _ _ (by simp[World.size_alloc,World.more_size];omega)] at h6;rw[hW,heap_more_in _ _ _ _ (by simp[World.size_alloc,World.more_size];omega)];simpa [World.size_alloc,World.more_size] using h6
   cE:=grew_heap h4 HE.o
   cM:=HEF.o.grew h4
   ld:=List.length_replicate
   le:=List.length_replicate }
  have h2:W.heap[w.heap.size]? = some (.cells #[.slice none 0 0,.int .i64 0,.int .i64 0,.bool false,.bool false] 240):=grew_heap h4 (grew_heap gw (heap_new_at _ _ _ rfl));have n1:w.heap.size≠B:=by omega
  have n2:w.heap.size≠bd:=by omega
  have n3:w.heap.size≠be:=by
   rintro rfl;have h5:=(grew_heap gw (heap_new_at w _ _ rfl)).symm.trans HE.o;simp at h5
  rw[←hB];clear HE HEF HD hW h4 hbd hbe hbm lE lM hne;have HV':=HV;have HW:=hY hwalk;have HGW:=hY hgW;have H2:=hY h2;have HCC':=HCC;clear hwalk hgW h2;refine(come0_any w W B bd be bm _ _ _ l.length _ HW.o HGW.o ⟨_,_,rfl⟩ h24).mono ?_;rintro e w1 ⟨rfl,hcm⟩;rw[start_eq] at hcm;have HCM:=hY hcm;clear hcm hB;go_wp2
  go_loopw [29] (fun i wr=>∃(j:Nat) (s:Vm.Cst),j≤l.length∧i = .int .i64 j∧cc=Vm.goC l (l.drop j) j s∧Vm.Inv s∧Came w B bd be bm l.length l.length (.slice a l.length cap) l.length W s wr) (fun i _=>l.length-(intOf i).toNat)
  case atStart=>exact⟨0,_,Nat.zero_le _,rfl,HCC.o,Vm.Inv.start _,HCM.o⟩
  case round =>
   obtain⟨j,s,hj,rfl,hcs,hin,hcj⟩:=hrel;have hcw:=cell_of (o:=0) hcj.walk.cB;have hpw:=Pre.mk (heap_lt hcj.walk.cB);simp at hcw
   have h2w:wr.heap[w.heap.size]? = some (.cells #[.slice none 0 0,.int .i64 0,.int .i64 0,.bool false,.bool false] 240):=by
    rw[hcj.oth.2 _ (heap_lt H2.o) n1 n2 n3];exact H2.o
   have hp2:=Pre.mk (heap_lt h2w);have f0:=frozen_of (o:=0) h2w;have f1:=frozen_of (o:=1) h2w;have f2:=frozen_of (o:=2) h2w;have f3:=frozen_of (o:=3) h2w;have f4:=frozen_of (o:=4) h2w;have c0:=cell_of (o:=0) h2w;have c1:=cell_of (o:=1) h2w;have c2:=cell_of (o:=2) h2w;have c3:=cell_of (o:=3) h2w;have c4:=cell_of (o:=4) h2w;simp at c0 c1 c2 c3 c4;have H2W:=hY h2w;have HCJ:=hY hcj;have HIN:=hY hin;have hlD:=Pre.mk (heap_lt hcj.walk.cD);by_cases hlt:j<l.length
   ·have hcdw:wr.cell? ⟨bd,j,none⟩=some (.int .i64 (s.depth.getD j (-1))):=(cell_of hcj.walk.cD).trans (ints_get _ _ (by rw[hcj.walk.ld];exact hlt) _);rw[Vm.goC_at hlt] at hcs;have hri:Co.rightI l[j]=true:=HR.o _ (List.getElem_mem hlt);have hst:=fun(hd:s.depth.getD j (-1) ≠ -1)=>step_any w wr B bd be bm l.length l.length (.slice a l.length cap) l s j hcj.walk hcj.grew HV.o hlt h24 hri ((hin.1 j).resolve_left hd) (hin.2 j)
    have his:=fun(hd:s.depth.getD j (-1) ≠ -1)=>Vm.Inv.step (p:=l) (i:=l[j]) hin hd
    generalize Vm.stepC l s j l[j]=st at *;generalize s.depth.getD j (-1)=dj at *;by_cases hd:dj = -1
    ·subst hd;rw[if_neg (by decide)] at hcs;have HCS:=hY hcs;clear hst his hcs hin hcj h2w hri;have hdn:((-1:Int) != -1)=false:=by decide
     go_wp2
     go_roundw
     case rel=>exact⟨j+1,s,by omega,by go_num,HCS.o,HIN.o,HCJ.o⟩
     case measure=>first|(simp[intOf];done)|(simp[intOf];omega)
    ·have hdn:(dj != -1)=true:=by simpa using hd
     rw[if_pos hd] at hcs;have HST:=hY (hst hd);have HIS:=hY (his hd);clear hst his hin hcj h2w hri hd;obtain⟨sb,b⟩:=st;cases b
     ·have hcs':cc=none:=hcs.trans (if_neg (by simp));have HCS:=hY hcs';clear hcs hcs' c0 c1 c2 c3 c4 f0 f1 f2 f3 f4
      go_wp2_with (go_at_call 202;refine HST.o.mono ?_;rintro e w3 ⟨rfl,hcm3⟩;(have h2x:w3.heap[w.heap.size]? = some (.cells #[.slice none 0 0,.int .i64 0,.int .i64 0,.bool false,.bool false] 240):=(hcm3.oth.2 _ (heap_lt H2W.o) n1 n2 n3).trans H2W.o);(have f0:=frozen_of (o:=0) h2x);(have f1:=frozen_of (o:=1) h2x);(have f2:=frozen_of (o:=2) h2x);(have f3:=frozen_of (o:=3) h2x);(have f4:=frozen_of (o:=4) h2x);(have c0:=cell_of (o:=0) h2x);(have c1:=cell_of (o:=1) h2x);(have c2:=cell_of (o:=2) h2x);(have c3:=cell_of (o:=3) h2x);(have c4:=cell_of (o:=4) h2x);simp at c0 c1 c2 c3 c4;(have HC3:=hY hcm3);clear hcm3 h2x)
      refine bodyPost_ret (v:=.tuple #[.agg #[.slice none 0 0,.int .i64 0,.int .i64 0,.bool false,.bool false],.int .i64 9]) (by simp[results,Tryz.results169,go_sem,c0,c1,c2,c3,c4]) rfl ⟨?_,?_⟩
      ·exact((((HC3.o.grew.set (Nat.le_refl _) _).set (Nat.le_refl _) _).set (Nat.le_refl _) _).set (Nat.le_refl _) _).set (Nat.le_refl _) _
      ·rw[←HCD.o,HCS.o]
     ·rw[if_pos rfl] at hcs;have HCS:=hY hcs;clear hcs
      go_wp2_with (go_at_call 202;refine HST.o.mono ?_;rintro e w3 ⟨rfl,hcm3⟩;(have HC3:=hY hcm3);clear hcm3)
      go_roundw
      case rel=>exact⟨j+1,sb,by omega,by go_num,HCS.o,HIS.o,HCJ.o.thn (Grew.refl _) HC3.o⟩
      case measure=>first|(simp[intOf];done)|(simp[intOf];omega)
   ·obtain rfl:j=l.length:=by omega
    rw[List.drop_length] at hcs;have HCS:=hY hcs;have w1c:=cell_of (o:=1) hcj.walk.cB;have w2c:=cell_of (o:=2) hcj.walk.cB;have w3c:=cell_of (o:=3) hcj.walk.cB;have w4c:=cell_of (o:=4) hcj.walk.cB;simp at w1c w2c w3c w4c;clear hcs hin hcj h2w;go_wp2;refine bodyPost_ret (v:=.tuple #[.agg #[.slice (some ⟨bd,0,none⟩) l.length l.length,.int .i64 s.mx,.int .i64 s.em,.bool s.u0,.bool s.u1],.int .i64 0]) (by simp[results,Tryz.results169,go_sem,c0,c1,c2,c3,c4]) rfl ⟨?_,?_⟩
    ·exact((((HCJ.o.grew.set (Nat.le_refl _) _).set (Nat.le_refl _) _).set (Nat.le_refl _) _).set (Nat.le_refl _) _).set (Nat.le_refl _) _
    ·rw[←HCD.o,HCS.o];refine⟨_,rfl,bd,l.length,?_,?_⟩
     ·rw[HCJ.o.walk.ld]
     ·rw[set_other n2,set_other n2,set_other n2,set_other n2,set_other n2];exact HCJ.o.walk.cD
theorem safe_any(v:Value)(l:List Val)(w:World)(hv:ValsAt w v l): Calls Tryz.prog 131 #[v] w (Gives (.bool (Vm.safe l)) w):=by
 have hC:=check_any v l;unfold CheckGives at hC;have hs:Vm.safe l=(Vm.checkC l).isSome:=rfl;rw[hs]
 cases hc:Vm.checkC l with
 |none =>
  rw[hc] at hC;have HC:=hY hC;have HV:=hY hv;clear hC hc hv hs;go_enter Tryz.func131,Tryz.ntmps131
  go_wp2_with (go_at_call 169;refine(HC.o _ (HV.o.grew gw)).mono ?_;rintro e w1 ⟨⟨R3,n3,rfl⟩,rfl⟩)
  go_ret;refine⟨rfl,?_⟩
  exact gw
 |some s =>
  rw[hc] at hC;have HC:=hY hC;have HV:=hY hv;clear hC hc hv hs;go_enter Tryz.func131,Tryz.ntmps131
  go_wp2_with (go_at_call 169;refine(HC.o _ (HV.o.grew gw)).mono ?_;rintro e w1 ⟨⟨R3,n3,rfl⟩,v,rfl,g,c,rfl,hD⟩;(have HD:=hY hD);clear hD)
  go_ret;refine⟨rfl,?_⟩;exact gw
theorem take05_any(op:Int)(h0:0≤op)(h1:op≤17)(w:World): Calls Tryz.prog 163 #[.int .i64 op] w fun e w'=>e = .returned (.int .i64 (takesI op))∧w=w':=by
 have hc:op=0∨op=1∨op=2∨op=3∨op=4∨op=5∨op=6∨op=7∨op=8∨op=9∨op=10∨op=11∨op=12∨op=13∨op=14∨op=15∨op=16∨op=17:=by omega
 clear h0 h1;rcases hc with rfl|rfl|rfl|rfl|rfl|rfl|rfl|rfl|rfl|rfl|rfl|rfl|rfl|rfl|rfl|rfl|rfl|rfl
 all_goals
  go_enter Tryz.func163,Tryz.ntmps163;go_wp2;go_ret;exact⟨rfl,rfl⟩
theorem leave05_any(op:Int)(h0:0≤op)(h1:op≤17)(w:World): Calls Tryz.prog 164 #[.int .i64 op] w fun e w'=>e = .returned (.int .i64 (leavesI op))∧w=w':=by
 have hc:op=0∨op=1∨op=2∨op=3∨op=4∨op=5∨op=6∨op=7∨op=8∨op=9∨op=10∨op=11∨op=12∨op=13∨op=14∨op=15∨op=16∨op=17:=by omega
 clear h0 h1;rcases hc with rfl|rfl|rfl|rfl|rfl|rfl|rfl|rfl|rfl|rfl|rfl|rfl|rfl|rfl|rfl|rfl|rfl|rfl
 all_goals
  go_enter Tryz.func164,Tryz.ntmps164;go_wp2;go_ret;exact⟨rfl,rfl⟩
theorem laidOutP:laidOutB Tryz.prog=true:=by kernel_rfl
theorem place_law:Maps.Keyed Tryz.prog 233:=Maps.Keyed.of_law (deep_law_laid laidOutP (m:=3) (by decide) (of_decide_eq_true (by kernel_rfl)) (by kernel_rfl) (by kernel_rfl))
abbrev Pl:=Int×Int×Int
def plV(x:Pl): Value:=.agg #[.int .i64 x.1,.int .i64 x.2.1,.int .i64 x.2.2]
theorem plV_inj{x y:Pl}(h:plV x=plV y): x=y:=by
 obtain⟨a,b,c⟩:=x;obtain⟨d,e,f⟩:=y;unfold plV at h;simp at h;obtain⟨rfl,rfl,rfl⟩:=h;rfl
def small(n:Int): Prop:=-9223372036854775808≤n∧n≤9223372036854775807
theorem keyTypeP:Tryz.prog.keyType 233=true:=by kernel_rfl
theorem cellsP:Tryz.prog.cellsOf 233=3:=by kernel_rfl
theorem cellsI1:Tryz.prog.cellsOf 3=1:=by kernel_rfl
theorem sizeP:Tryz.prog.types.size≠0:=of_decide_eq_true (by kernel_rfl)
theorem keyP(x:Pl)(h1:small x.1)(h2:small x.2.1)(h3:small x.2.2): ∃kl,keyOf Tryz.prog 233 (plV x)=some kl:=by
 have w1:=WalkArith.wf_i64 h1;have w2:=WalkArith.wf_i64 h2;have w3:=WalkArith.wf_i64 h3;unfold plV keyOf;obtain⟨m,hm⟩:=Nat.exists_eq_succ_of_ne_zero sizeP;simp only[Tryz.underlying233,keyTypeP,hm];simp[Value.formed,Tryz.underlying233,cellsP,Program.keyLits,Value.cells,Tryz.underlying3,cellsI1,w1,w2,w3]
def SetAt(W:World)(b n:Nat)(M:List Pl): Prop:=∃D:DataW Unit,W.ownsMap Tryz.prog 233 (plainElem Tryz.prog 4) b n D∧Maps.IsMap D∧∀x kl,keyOf Tryz.prog 233 (plV x)=some kl→D.atKey kl (.lit (.bool false)) = .lit (.bool (decide (x∈M)))
theorem SetAt.made(W:World): SetAt (W.alloc (.map #[] 0)) W.heap.size 0 [] :=
 ⟨_,World.ownsMap_made _ _ _ _,⟨_,rfl⟩,fun x kl _=>by simp[WideAt.atKey_none]⟩
theorem SetAt.same{W W':World}{b n:Nat}{M:List Pl}(h:SetAt W b n M)(hb:W'.heap[b]? = W.heap[b]?): SetAt W' b n M:=by
 obtain⟨D,⟨es,c,h1,h2⟩,h3⟩:=h;exact⟨D,⟨es,c,by rw[hb];exact h1,h2⟩,h3⟩
theorem zeroBool(w:World): (zeroValue 4).run Tryz.prog w = .ok (.bool false) w:=by kernel_rfl
theorem plainBool_inv{v:Value}{b:Bool}{ps:List MemPlace}(h:plainElem (H:=Unit) Tryz.prog 4 v=some (.lit (.bool b),ps)): v = .bool b:=by
 unfold plainElem at h;rw[Tryz.underlying4] at h;cases v<;>simp at h
 rw[h.1]
theorem SetAt.look{W:World}{b n:Nat}{M:List Pl}(h:SetAt W b n M)(x:Pl)(h1:small x.1)(h2:small x.2.1)(h3:small x.2.2): (Instr.lookup 231 (.map (some b)) (plV x) false).run Tryz.prog W = .ok (.bool (decide (x∈M))) W:=by
 obtain⟨D,ho,_,hD⟩:=h;obtain⟨kl,hk⟩:=keyP x h1 h2 h3;obtain⟨v,ps,hr,hv⟩:=World.ownsMap.lookup ho place_law Tryz.underlying231 (zeroBool W) (zd:=.lit (.bool false)) (zp:=[]) (plainElem_bool Tryz.underlying4 false) hk;rw[hD x kl hk] at hv;rw[hr,plainBool_inv hv]
theorem SetAt.add{W:World}{b n:Nat}{M:List Pl}(h:SetAt W b n M)(hn:n<maxLen)(x:Pl)(h1:small x.1)(h2:small x.2.1)(h3:small x.2.2):
  ∃W',(Instr.mapUpdate 231 (.map (some b)) (plV x) (.bool true)).run Tryz.prog W = .ok () W'∧SetAt W' b (n+1) (x::M)∧W.grownBy W' (some b):=by
 obtain⟨D,ho,hm,hD⟩:=h;obtain⟨kl,hk⟩:=keyP x h1 h2 h3;obtain⟨W',hr,ho',hg⟩:=World.ownsMap.update ho place_law Tryz.underlying231 hn hk (plainElem_bool Tryz.underlying4 true);refine⟨W',hr,⟨_,ho',?_,fun y ky hy=>?_⟩,hg⟩
 ·obtain⟨es,rfl⟩:=hm;exact⟨_,rfl⟩
 ·by_cases hyx:y=x
  ·subst hyx;rw[hk] at hy;cases hy;rw[Maps.atKey_put_same hm (place_law.key hk)];simp
  ·have hne:ky≠kl:=fun e=>hyx (plV_inj (place_law.inj (e▸hy) hk))
   rw[Maps.atKey_put_other hne,hD y ky hy];simp[hyx]
theorem wpList_setAdd{w0 W:World}{ops:Array Oper}{rest:List Oper}{o:Oper}{a:Act}{Q:Exit→Act→World→Prop}{b n:Nat}{M:List Pl}
  (hg:o.guard=none) (m k v:Operand) (hop:o.op=Op.mapUpdate 231 m k v) (hgr:Grew w0 W) (hb:w0.heap.size≤b)
  (hm:a.eval m = .map (some b)) (h:SetAt W b n M) (hn:n<maxLen) (x:Pl) (h1:small x.1) (h2:small x.2.1) (h3:small x.2.2) (hk:a.eval k=plV x) (hv:a.eval v = .bool true)
  (hK:∀W',SetAt W' b (n+1) (x::M)→Grew w0 W'→(∀q,q<W.heap.size→q≠b→W'.heap[q]? = W.heap[q]?)→W.heap.size≤W'.heap.size→wpList Tryz.prog ops Q rest (a.put o.dst undef) W'):wpList Tryz.prog ops Q (o::rest) a W:=by
 refine wpList_plain hg fun K' hK'=>?_
 obtain⟨W',hrun,r1,r2⟩:=h.add hn x h1 h2 h3;unfold Oper.wp;simp[execOp,hop,hm,hk,hv,hrun,Result.andThen];exact hK' _ _ (hK W' r1 (hgr.grown r2 (fun q hq=>by cases hq;exact hb)) (fun q hq hne=>r2.block q hq (by simpa using hne)) r2.size)
theorem right_jump{x y:Int}(h:Co.rightI (x,y)=true): x=15∨x=16→y≤24:=by
 unfold Co.rightI Co.lo Co.hi at h;simp only[Bool.and_eq_true,decide_eq_true_eq] at h;grind
def encP(x:Pl): List Value:=[.int .i64 x.1,.int .i64 x.2.1,.int .i64 x.2.2]
theorem infoPl:(Tryz.prog.info? 233).map (fun i=>(i.zero,i.size,i.bytes))=some (some (.agg #[.int .i64 0,.int .i64 0,.int .i64 0]),3,24):=by kernel_rfl
theorem encP_len(x:Pl): (encP x).length=3:=rfl
theorem encP_one(x:Pl): ∀u∈encP x,u.oneCell'=true:=by
 intro u hu;simp[encP] at hu;rcases hu with rfl|rfl|rfl<;>rfl
def encD(d:Int): List Value:=[.int .i64 d]
theorem encD_len(d:Int): (encD d).length=1:=rfl
theorem encD_one(d:Int): ∀u∈encD d,u.oneCell'=true:=by intro u hu;simp[encD] at hu;subst hu;rfl
theorem flatD:∀(l:List Int),l.flatMap encD=l.map (Value.int .i64)
 | []=>rfl
 | d::l=>by rw[List.flatMap_cons,flatD l];rfl
theorem SetAt.obj{W:World}{b n:Nat}{M:List Pl}(h:SetAt W b n M): ∃es c,W.heap[b]? = some (.map es c):=by
 obtain⟨D,⟨es,c,h1,_⟩,_⟩:=h;exact⟨es,c,h1⟩
theorem SetAt.ne{W:World}{b n g:Nat}{M:List Pl}{c:Array Value}{t:TypeId}(h:SetAt W b n M)(hg:W.heap[g]? = some (.cells c t)): g≠b:=by
 rintro rfl;obtain⟨es,k,h1⟩:=h.obj;rw[hg] at h1;cases h1
theorem SetAt.lt{W:World}{b n:Nat}{M:List Pl}(h:SetAt W b n M): b<W.heap.size:=by
 obtain⟨es,k,h1⟩:=h.obj;exact heap_lt h1
theorem OwnAt.setD{base:Nat}{e:TypeId}{w:World}{b n cap k:Nat}{l:List Int}(h:OwnAt base e 1 encD w (.slice (some ⟨b,0,none⟩) n cap) l)(hk:k<l.length)(d:Int): OwnAt base e 1 encD (w.setCell ⟨b,k,none⟩ (.int .i64 d)) (.slice (some ⟨b,0,none⟩) n cap) (l.set k d):=by
 obtain⟨h1,h2⟩:=h;refine⟨by rw[flat_length encD_len,List.length_set],?_⟩;rcases h2 with ⟨h,_⟩|⟨g,cap',cur,hv,hb,hh,hc,hm,hs,ht⟩
 ·cases h
 ·cases hv;refine .inr ⟨b,cap,cur.setIfInBounds k (.int .i64 d),by rw[List.length_set],hb,set_self hh,by rw[List.length_set];exact hc,hm,by rw[Array.size_setIfInBounds];exact hs,?_⟩;rw[List.length_set,flatD,Array.toList_setIfInBounds,List.take_set,ht,flatD,List.map_set]
theorem ownD_at{base:Nat}{e:TypeId}{w:World}{v:Value}{l:List Int}(h:OwnAt base e 1 encD w v l){k:Nat}(hk:k<l.length): ∃b cap cur,v = .slice (some ⟨b,0,none⟩) l.length cap∧base≤b∧w.heap[b]? = some (.cells cur e)∧w.cell? ⟨b,k,none⟩=some (.int .i64 (l.getD k (-1))):=by
 obtain⟨h1,h2⟩:=h;rcases h2 with ⟨_,h⟩|⟨g,cap',cur,hv,hb,hh,hc,hm,hs,ht⟩
 ·omega
 ·refine⟨g,cap',cur,hv,hb,hh,?_⟩;rw[cell_of hh]
  have h3:(cur.toList.take (l.length*1))[k]? = some (Value.int .i64 (l.getD k (-1))):=by
   rw[ht,flatD,List.getElem?_map,List.getElem?_eq_getElem hk,List.getD_eq_getElem?_getD,List.getElem?_eq_getElem hk];rfl
  rw[List.getElem?_take] at h3;split at h3
  ·rw[←Array.getElem?_toList];exact h3
  ·cases h3
theorem ownP_last{base:Nat}{e:TypeId}{w:World}{v:Value}{l:List Pl}{x:Pl}(h:OwnAt base e 3 encP w v (l++[x])): ∃b cap cur,v = .slice (some ⟨b,0,none⟩) (l.length+1) cap∧base≤b∧l.length+1≤cap∧w.heap[b]? = some (.cells cur e)∧w.cell? ⟨b,l.length*3,none⟩=some (.int .i64 x.1)∧w.cell? ⟨b,l.length*3+1,none⟩=some (.int .i64 x.2.1)∧w.cell? ⟨b,l.length*3+2,none⟩=some (.int .i64 x.2.2):=by
 have hr:=h.rows encP_len;obtain⟨h1,h2⟩:=h;rcases h2 with ⟨_,h⟩|⟨g,cap',cur,hv,hb,hh,hc,hm,hs,ht⟩
 ·simp at h
 ·rw[List.length_append] at hv hc;refine⟨g,cap',cur,hv,hb,hc,hh,?_⟩
  have hflat:∀j u,((l++[x]).flatMap encP)[j]? = some u→w.cell? ⟨g,j,none⟩=some u:=by
   intro j u hj;rw[←ht,List.getElem?_take] at hj;split at hj
   ·rw[cell_of hh,←Array.getElem?_toList];exact hj
   ·cases hj
  have hat:∀r,r<3→((l++[x]).flatMap encP)[l.length*3+r]? = (encP x)[r]? :=by
   intro r hr;rw[List.flatMap_append,List.getElem?_append_right (by rw[flat_length encP_len];omega),flat_length encP_len];simp
  exact⟨hflat _ _ (hat 0 (by decide)),hflat _ _ (hat 1 (by decide)),hflat _ _ (hat 2 (by decide))⟩
structure GoneAt (w:World) (b2 b3 bm n:Nat) (wr:World) (vd vt:Value) (dep:List Int) (mx em:Int) (u0 u1:Bool) (T M:List Pl):Prop where
 g:Grew w wr
 n1:b2≠b3
 h2:w.heap.size≤b2
 h3:w.heap.size≤b3
 hm:w.heap.size≤bm
 c2:wr.heap[b2]? = some (.cells #[.slice none 0 0,.int .i64 0,.int .i64 0,.bool false,.bool false,.bool false] 191)
 c3:wr.heap[b3]? = some (.cells #[vd,.int .i64 mx,.int .i64 em,.bool u0,.bool u1,.bool true] 191)
 d:OwnAt w.heap.size 3 1 encD wr vd dep
 t:OwnAt w.heap.size 233 3 encP wr vt T
 s:SetAt wr bm n M
section
variable {w wr W W':World} {b2 b3 bm n:Nat} {vd vt v':Value} {dep:List Int} {mx em:Int} {u0 u1:Bool} {T M:List Pl}
theorem GoneAt.grew(h:GoneAt w b2 b3 bm n wr vd vt dep mx em u0 u1 T M)(g:Grew wr W): GoneAt w b2 b3 bm n W vd vt dep mx em u0 u1 T M :=
 ⟨h.g.trans g,h.n1,h.h2,h.h3,h.hm,grew_heap g h.c2,grew_heap g h.c3,h.d.grew g,h.t.grew g,h.s.same (g.below.block bm h.s.lt)⟩
theorem GoneAt.setK(h:GoneAt w b2 b3 bm n wr vd vt dep mx em u0 u1 T M)(o:Nat)(v:Value)(mx' em':Int)(u0' u1':Bool)(hc:(#[vd,.int .i64 mx,.int .i64 em,.bool u0,.bool u1,.bool true]:Array Value).setIfInBounds o v=#[vd,.int .i64 mx',.int .i64 em',.bool u0',.bool u1',.bool true]): GoneAt w b2 b3 bm n (wr.setCell ⟨b3,o,none⟩ v) vd vt dep mx' em' u0' u1' T M where
 g:=h.g.set h.h3 _
 n1:=h.n1
 h2:=h.h2
 h3:=h.h3
 hm:=h.hm
 c2:=by rw[set_other h.n1.symm];exact h.c2
 c3:=by rw[set_self h.c3,hc]
 d:=h.d.same fun q hq=>set_other fun e=>h.d.other h.c3 (by decide) (e▸hq)
 t:=h.t.same fun q hq=>set_other fun e=>h.t.other h.c3 (by decide) (e▸hq)
 s:=h.s.same (set_other (h.s.ne h.c3))
theorem GoneAt.other(h:GoneAt w b2 b3 bm n wr vd vt dep mx em u0 u1 T M)(hg:Grew w W)(hs:∀q,q<wr.heap.size→vt.ownBlock≠some q→q≠bm→W.heap[q]? = wr.heap[q]?)(ht:OwnAt w.heap.size 233 3 encP W v' T)(hm:SetAt W bm n M): GoneAt w b2 b3 bm n W vd v' dep mx em u0 u1 T M where
 g:=hg
 n1:=h.n1
 h2:=h.h2
 h3:=h.h3
 hm:=h.hm
 c2:=(hs b2 (heap_lt h.c2) (h.t.other h.c2 (by decide)) (h.s.ne h.c2)).trans h.c2
 c3:=(hs b3 (heap_lt h.c3) (h.t.other h.c3 (by decide)) (h.s.ne h.c3)).trans h.c3
 d:=h.d.same fun q hq=>by
  obtain⟨_,c,hc⟩:=h.d.block hq;exact hs q (heap_lt hc) (h.t.other hc (by decide)) (h.s.ne hc)
 t:=ht
 s:=hm
theorem GoneAt.pushT(h:GoneAt w b2 b3 bm n wr vd vt dep mx em u0 u1 T M)(g:Grew wr W){T':List Pl}(hA:Appended w 233 3 encP W vt T' v' W'): GoneAt w b2 b3 bm n W' vd v' dep mx em u0 u1 T' M:=by
 have h':=h.grew g;obtain⟨a1,a2,a3,a4,a5⟩:=hA;have hb:∀q,q<W.heap.size→vt.ownBlock≠some q→W'.heap[q]? = W.heap[q]? :=a4;refine⟨a1,h.n1,h.h2,h.h3,h.hm,?_,?_,?_,a2,?_⟩
 ·exact(hb b2 (heap_lt h'.c2) (h'.t.other h'.c2 (by decide))).trans h'.c2
 ·exact(hb b3 (heap_lt h'.c3) (h'.t.other h'.c3 (by decide))).trans h'.c3
 ·refine h'.d.same fun q hq=>?_
  obtain⟨_,c,hc⟩:=h'.d.block hq;exact hb q (heap_lt hc) (h'.t.other hc (by decide))
 ·refine h'.s.same (hb bm h'.s.lt fun e=>?_);obtain⟨_,c,hc⟩:=h'.t.block e;exact h'.s.ne hc rfl
theorem GoneAt.pushD(h:GoneAt w b2 b3 bm n wr vd vt dep mx em u0 u1 T M)(g:Grew wr W){dep':List Int}(hA:Appended w 3 1 encD W vd dep' v' W'): GoneAt w b2 b3 bm n (W'.setCell ⟨b3,0,none⟩ v') v' vt dep' mx em u0 u1 T M:=by
 have h':=h.grew g;obtain⟨a1,a2,a3,a4,a5⟩:=hA;have hb:∀q,q<W.heap.size→vd.ownBlock≠some q→W'.heap[q]? = W.heap[q]? :=a4;have e3:=(hb b3 (heap_lt h'.c3) (h'.d.other h'.c3 (by decide))).trans h'.c3
 have et:∀q,vt.ownBlock=some q→W'.heap[q]? = W.heap[q]? :=fun q hq=>by
  obtain⟨_,c,hc⟩:=h'.t.block hq;exact hb q (heap_lt hc) (h'.d.other hc (by decide))
 have es:W'.heap[bm]? = W.heap[bm]? :=hb bm h'.s.lt fun e=>by
  obtain⟨_,c,hc⟩:=h'.d.block e;exact h'.s.ne hc rfl
 refine⟨a1.set h.h3 _,h.n1,h.h2,h.h3,h.hm,?_,?_,?_,?_,?_⟩
 ·rw[set_other h.n1.symm];exact(hb b2 (heap_lt h'.c2) (h'.d.other h'.c2 (by decide))).trans h'.c2
 ·rw[set_self e3];rfl
 ·exact a2.same fun q hq=>set_other fun e=>a2.other e3 (by decide) (e▸hq)
 ·have ht:=h'.t.same et;exact ht.same fun q hq=>set_other fun e=>ht.other e3 (by decide) (e▸hq)
 ·have hs:=h'.s.same es;exact hs.same (set_other (hs.ne e3))
theorem GoneAt.at3(h:GoneAt w b2 b3 bm n wr vd vt dep mx em u0 u1 T M)(g:Grew wr W){dep':List Int}(hA:Appended w 3 1 encD W vd dep' v' W'): W'.heap[b3]? = some (.cells #[vd,.int .i64 mx,.int .i64 em,.bool u0,.bool u1,.bool true] 191):=by
 have h':=h.grew g;exact(hA.2.2.2.1 b3 (heap_lt h'.c3) (h'.d.other h'.c3 (by decide))).trans h'.c3
theorem own_slice'{α:Type}{base:Nat}{e:TypeId}{k:Nat}{enc:α→List Value}{w:World}{v:Value}{l:List α}(h:OwnAt base e k enc w v l): ∃a c,v = .slice a l.length c:=by
 rcases h.form with ⟨h1,h2⟩|⟨b,c,h1,_⟩
 ·exact⟨none,0,by rw[h1,h2];rfl⟩
 ·exact⟨_,c,h1⟩
theorem own_sliceU{α:Type}{base:Nat}{e:TypeId}{k:Nat}{enc:α→List Value}{w:World}{v:Value}{l:List α}{x:α}(h:OwnAt base e k enc w v (l++[x])): ∃a c,v = .slice a (l.length+1) c:=by
 obtain⟨a,c,h⟩:=own_slice' h;exact⟨a,c,by rw[h,List.length_append];rfl⟩
theorem own_slice2{α:Type}{base:Nat}{e:TypeId}{k:Nat}{enc:α→List Value}{w:World}{v:Value}{l:List α}{x y:α}(h:OwnAt base e k enc w v (l++[x]++[y])): ∃a c,v = .slice a (l.length+1+1) c:=by
 obtain⟨a,c,h⟩:=own_slice' h;exact⟨a,c,by rw[h,List.length_append,List.length_append];rfl⟩
theorem GoneAt.setDep{bd cap k:Nat}{nd:Nat}(h:GoneAt w b2 b3 bm n wr (.slice (some ⟨bd,0,none⟩) nd cap) vt dep mx em u0 u1 T M)(hk:k<dep.length)(d:Int): GoneAt w b2 b3 bm n (wr.setCell ⟨bd,k,none⟩ (.int .i64 d)) (.slice (some ⟨bd,0,none⟩) nd cap) vt (dep.set k d) mx em u0 u1 T M:=by
 obtain⟨hbd,c,hc⟩:=h.d.block rfl
 have hne:∀{q:Nat} {cq:Array Value} {t:TypeId},wr.heap[q]? = some (.cells cq t)→t≠3→bd≠q:=by
  rintro q cq t hq ht rfl;rw[hc] at hq;cases hq;exact ht rfl
 refine⟨h.g.set hbd _,h.n1,h.h2,h.h3,h.hm,?_,?_,OwnAt.setD h.d hk d,?_,?_⟩
 ·rw[set_other (hne h.c2 (by decide))];exact h.c2
 ·rw[set_other (hne h.c3 (by decide))];exact h.c3
 ·refine h.t.same fun q hq=>?_
  obtain⟨_,cq,hcq⟩:=h.t.block hq;exact set_other (hne hcq (by decide))
 ·exact h.s.same (set_other (h.s.ne hc))
theorem GoneAt.cutT{b cap:Nat}{x:Pl}{nt nt':Nat}(h:GoneAt w b2 b3 bm n wr vd (.slice (some ⟨b,0,none⟩) nt cap) dep mx em u0 u1 (T++[x]) M)(hn:nt'=T.length): GoneAt w b2 b3 bm n wr vd (.slice (some ⟨b,0,none⟩) nt' cap) dep mx em u0 u1 T M:=by
 subst hn;have:=h.t.cut encP_len (m:=T.length) (by simp);rw[List.take_left'  rfl] at this;exact { h with t:=this }
theorem GoneAt.addM{x:Pl}(h:GoneAt w b2 b3 bm n wr vd vt dep mx em u0 u1 T M)(hs:SetAt W bm (n+1) (x::M))(hg:Grew w W)(hb:∀q,q<wr.heap.size→q≠bm→W.heap[q]? = wr.heap[q]?): GoneAt w b2 b3 bm (n+1) W vd vt dep mx em u0 u1 T (x::M) where
 g:=hg
 n1:=h.n1
 h2:=h.h2
 h3:=h.h3
 hm:=h.hm
 c2:=(hb b2 (heap_lt h.c2) (h.s.ne h.c2)).trans h.c2
 c3:=(hb b3 (heap_lt h.c3) (h.s.ne h.c3)).trans h.c3
 d:=h.d.same fun q hq=>by
  obtain⟨_,c,hc⟩:=h.d.block hq;exact hb q (heap_lt hc) (h.s.ne hc)
 t:=h.t.same fun q hq=>by
  obtain⟨_,c,hc⟩:=h.t.block hq;exact hb q (heap_lt hc) (h.s.ne hc)
 s:=hs
end
theorem enc_newU{α:Type}{enc:α→List Value}(w:World)(x:α)(c:List Value)(t:TypeId)(b:Nat)(hb:b=w.heap.size)(hc:enc x=c): ∀j u,([x].flatMap enc)[j]? = some u→(w.alloc (.cells c.toArray t)).cell? ⟨b,j,none⟩=some u:=by
 intro j u hj;rw[cell_of (heap_new_at w _ b hb)];rw[List.flatMap_cons,List.flatMap_nil,List.append_nil,hc] at hj;simpa using hj
theorem rep_push(j:Nat): List.replicate j (-1:Int)++[-1]=List.replicate (j+1) (-1):=by
 rw[List.replicate_succ']
def Going(l:List Val)(w:World)(b3 m:Nat)(vt:Value)(wr:World): Prop:=∃(vd:Value) (dep:List Int) (mx em:Int) (u0 u1:Bool) (T M:List Pl),GoneAt w w.heap.size b3 (b3+1) M.length wr vd vt dep mx em u0 u1 T M∧Vm.Gone l M T dep∧m=2*Vm.free M+T.length
def frame9(v:Value)(b2 b3:Nat)(u:Nat→Value): Act:={ tmps:=#[v,u 1,.pointer (some ⟨b2,0,none⟩),.pointer (some ⟨b3,0,none⟩),.map (some (b3+1)),u 5,u 6,u 7,u 8,u 9,u 10,u 11,u 12,u 13,u 14,u 15,u 16,u 17,u 18,u 19,u 20,u 21,u 22,u 23,u 24,u 25,u 26,u 27,u 28,u 29,u 30,u 31,u 32,u 33,u 34,u 35,u 36,u 37,u 38,u 39,u 40,u 41,u 42,u 43,u 44,u 45,u 46,u 47,u 48,u 49,u 50,u 51,u 52,u 53,u 54,u 55,u 56,u 57,u 58,u 59,u 60,u 61,u 62,u 63,u 64,u 65,u 66,u 67,u 68,u 69,u 70,u 71,u 72,u 73,u 74,u 75,u 76,u 77,u 78,u 79,u 80,u 81,u 82,u 83,u 84,u 85,u 86,u 87,u 88,u 89,u 90,u 91,u 92,u 93,u 94,u 95,u 96,u 97,u 98,u 99,u 100,u 101,u 102,u 103,u 104,u 105,u 106,u 107,u 108,u 109,u 110,u 111,u 112,u 113,u 114,u 115,u 116,u 117,u 118,u 119,u 120,u 121,u 122,u 123,u 124,u 125,u 126,u 127,u 128,u 129,u 130,u 131,u 132,u 133,u 134,u 135,u 136,u 137,u 138,u 139,u 140,u 141,u 142,u 143,u 144,u 145,u 146,u 147,u 148,u 149,u 150,u 151,u 152,u 153,u 154,u 155,u 156,u 157,u 158,u 159,u 160,u 161,u 162,u 163,u 164,u 165,u 166,u 167,u 168,u 169,u 170,u 171,u 172,u 173,u 174,u 175,u 176,u 177,u 178,u 179,u 180,u 181,u 182,u 183,u 184,u 185,u 186,u 187,u 188,u 189,u 190,u 191,u 192,u 193],defers:=[] }
def RefCheck(l:List Val)(w:World)(e:Ending)(w':World): Prop:=Grew w w'∧∃(d:Value) (n1 n2:Int) (u1 u2:Bool),e = .returned (.agg #[d,.int .i64 n1,.int .i64 n2,.bool u1,.bool u2,.bool (Vm.safe l)])
theorem RefCheck.mk{l:List Val}{w w':World}{d:Value}{n1 n2:Int}{u1 u2 b:Bool}(h:Vm.safe l=b)(hg:Grew w w'): RefCheck l w (.returned (.agg #[d,.int .i64 n1,.int .i64 n2,.bool u1,.bool u2,.bool b])) w' :=
 ⟨hg,d,n1,n2,u1,u2,by rw[h]⟩
theorem Going.frame{l:List Val}{w w':World}{b2 b3 n:Nat}{v:Value}{a':Act}(h:a'=frame9 v b2 b3 (fun i=>a'.tmps.getD i undef))(hp:Going l w b3 n (a'.tmps.getD 5 undef) w'): ∃u,a'=frame9 v b2 b3 u∧Going l w b3 n (u 5) w':=⟨_,h,hp⟩
theorem Going.mkFrame{b2 b3:Nat}{v:Value}{a':Act}(h:a'=frame9 v b2 b3 (fun i=>a'.tmps.getD i undef)): a'=frame9 v b2 b3 (fun i=>a'.tmps.getD i undef):=h
def allLoops9:Code→List Code
 | .loop c=>[c]
 | .seq a b=>allLoops9 a++allLoops9 b
 | .block _ c=>allLoops9 c
 | .scope c=>allLoops9 c
 | .cond _ a b=>allLoops9 a++allLoops9 b
 | _=>[]
def starts9(n:Nat): Code→Bool
 | .region k _ _=>k==n
 | .seq a _=>starts9 n a
 | _=>false
def from9(n:Nat): Code→Option Code
 |.seq a b=>if starts9 n a then some (.seq a b) else match from9 n a with
  | some c=>some c
  | none=>from9 n b
 | .loop c=>from9 n c
 | .block _ c=>from9 n c
 | .scope c=>from9 n c
 |.cond _ a b=>match from9 n a with
  | some c=>some c
  | none=>from9 n b
 | _=>none
def End9(l:List Val)(w:World)(b3:Nat)(v:Value)(a':Act)(w':World): Prop:=∃(u:Nat→Value) (vd vt:Value) (dep:List Int) (mx em:Int) (u0 u1:Bool) (M:List Pl),a'=frame9 v w.heap.size b3 u∧GoneAt w w.heap.size b3 (b3+1) M.length w' vd vt dep mx em u0 u1 [] M∧Vm.safe l=true
end Go.Proofs.YtipgfjihdglocaaGreat
