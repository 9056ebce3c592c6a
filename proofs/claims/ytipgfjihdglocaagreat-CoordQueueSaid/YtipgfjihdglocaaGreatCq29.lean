import Derived.Test.YtipgfjihdglocaaGreatCq19
import Derived.Test.YtipgfjihdglocaaGreatCq21
set_option linter.unusedSimpArgs false
set_option linter.unusedVariables false
set_option maxRecDepth 100000
set_option maxHeartbeats 64000000
namespace Go.Proofs.YtipgfjihdglocaaGreat
open Go.RowKit Ga
def passL1:List Gr.Nd:=[⟨0,0,[],[],1,List.replicate 8 0⟩,⟨1,2,[0],[],1,List.replicate 8 0⟩]
theorem pass1O_any(w:World): Calls Tryz.prog 21 #[.int .i64 1] w fun e w'=>∃v lc,e = .returned v∧NodesOwn 0 w' v lc∧NodesIn 0 w' lc passL1∧Grew w w':=by
 go_enter Tryz.func21,Tryz.ntmps21;go_wp2;have hm1:max (1:Int) 1=1:=rfl;have hm2:min (1:Int) 3=1:=rfl;simp only[hm1,hm2]
 go_loopg [11] 8 (fun gg s11 wr=>∃g:Nat,g≤8∧8-g≤gg∧s11 = .int .i64 g∧wr.heap[w.heap.size]? = some (.cells (nodeArr 0 0 (.slice none 0 0) (.slice none 0 0) 1 (List.replicate 8 0)) 52)∧Hid (Grew w wr))
 case atStart =>
  refine⟨0,by omega,by omega,rfl,?_,hY ?_⟩
  ·have hna:nodeArr 0 0 (.slice none 0 0) (.slice none 0 0) 1 (List.replicate 8 0)=#[.int .i64 0,.int .i64 0,.slice none 0 0,.slice none 0 0,.int .i64 1,.int .i64 0,.int .i64 0,.int .i64 0,.int .i64 0,.int .i64 0,.int .i64 0,.int .i64 0,.int .i64 0]:=by
    simp[nodeArr,List.replicate_succ]
   rw[hna];exact heap_new_at w _ _ rfl
  ·repeat (first|exact(Grew.refl _).alloc _|refine Grew.set ?_ (Nat.le_refl _) _)
 case round =>
  obtain⟨g,hg8,hgg,rfl,hbx,HGR⟩:=hrel;have hp:=Pre.mk (heap_lt hbx);have HBX:=hY hbx;by_cases hlt:g<8
  ·have hset:(List.replicate 8 (0:Int)).set g 0=List.replicate 8 0:=by
    have:g=0∨g=1∨g=2∨g=3∨g=4∨g=5∨g=6∨g=7:=by omega
    rcases this with rfl|rfl|rfl|rfl|rfl|rfl|rfl|rfl<;>rfl
   have hc5:=cell_of (o:=5+g) hbx;rw[nodeArr_get _ _ _ _ _ _ g (by simp;omega)] at hc5;have hf5:=frozen_of (o:=5+g) hbx;have HSET:=hY hset;have hne:(1:Int)≠0:=by decide
   have htm:Int.tmod (g:Int) 1=0:=Int.tmod_one _;clear hset hbx;go_wp2
   go_roundg (8-(g+1))
   case measure=>omega
   case rel =>
    refine⟨g+1,by omega,by omega,by go_num,?_,hY (HGR.o.set (Nat.le_refl _) _)⟩;rw[show(List.replicate 8 (0:Int))=(List.replicate 8 (0:Int)).set g 0 from HSET.o.symm,←nodeArr_set];exact set_self HBX.o
  ·obtain rfl:g=8:=by omega
   have a0:=cell_of (o:=0) hbx;have a1:=cell_of (o:=1) hbx;have a2:=cell_of (o:=2) hbx;have a3:=cell_of (o:=3) hbx;have a4:=cell_of (o:=4) hbx;have a5:=cell_of (o:=5) hbx;have a6:=cell_of (o:=6) hbx;have a7:=cell_of (o:=7) hbx;have a8:=cell_of (o:=8) hbx;have a9:=cell_of (o:=9) hbx;have a10:=cell_of (o:=10) hbx;have a11:=cell_of (o:=11) hbx;have a12:=cell_of (o:=12) hbx;simp[nodeArr,List.replicate_succ] at a0 a1 a2 a3 a4 a5 a6 a7 a8 a9 a10 a11 a12;clear hbx;go_wp2;go_ret;refine⟨_,[⟨0,0,none,0,0,none,0,0,1,0,0,0,0,0,0,0,0⟩,⟨1,2,some ⟨wr.heap.size+1,0,none⟩,1,1,none,0,0,1,0,0,0,0,0,0,0,0⟩],rfl,OwnAt.fresh rfl rfl rfl (by simp[maxLen]) encNd_len (by simp[World.size_alloc]) (Nat.zero_le _) rfl,?_,HGR.o.trans gw⟩;have hi:OwnAt 0 3 1 encN (((wr.alloc (.cells #[.int .i64 1,.int .i64 2,.slice (some ⟨wr.heap.size+1,0,none⟩) 1 1,.slice none 0 0,.int .i64 1,.int .i64 0,.int .i64 0,.int .i64 0,.int .i64 0,.int .i64 0,.int .i64 0,.int .i64 0,.int .i64 0] 52))).alloc (.cells #[.int .i64 0] 3)) (.slice (some ⟨wr.heap.size+1,0,none⟩) 1 1) [0]:=OwnAt.fresh (c:=[.int .i64 0]) rfl rfl rfl (by decide) encN_len (by simp[World.size_alloc]) (Nat.zero_le _) rfl;exact⟨⟨⟨rfl,rfl,RowsAt.nil,RowsAt.nil,rfl,rfl,Nat.zero_le _⟩,OwnAt.nil _,OwnAt.nil _⟩,⟨⟨rfl,rfl,(OwnAt.grew hi ((Grew.refl _).alloc _)).rows encN_len,RowsAt.nil,rfl,rfl,Nat.le_refl _⟩,OwnAt.grew hi ((Grew.refl _).alloc _),OwnAt.nil _⟩,trivial⟩
theorem thereB_at{n k:Int}(h:thereB n k=true)(v:Val): There ⟨n,k,v,v⟩:=(thereB_iff (x:=⟨n,k,v,v⟩)).1 h
theorem TabD.found{D:DataW Unit}{m:List Tab.En}(h:TabD D m){n k:Int}(ht:thereB n k=true){kl:Lit}(hk:keyOf Tryz.prog 268 (ceK n k)=some kl): D.atKey kl (ceDat (0,0) (0,0))=ceDat (getT m n k).1 (getT m n k).2:=by
 rcases getT_cases m n k with ⟨x,hx,h1,h2⟩|⟨h1,h2⟩
 ·rw[h2];obtain⟨e1,e2⟩:=((h.there x hx).inj (thereB_at ht x.c0)).1 (h1.trans rfl);simp only at e1 e2;exact(h.at' x hx kl (by rw[e1,e2];exact hk)).2 _
 ·rw[h2];cases hh:Maps.has D kl
  ·exact Maps.atKey_of_not_has hh _
  ·obtain⟨x,hx,hxk⟩:=h.has kl hh;obtain⟨e1,e2⟩:=ceK_inj (cell_law.inj hxk hk);exact absurd (by unfold Tab.num;rw[e1,e2]) (h1 x hx)
theorem zeroCells(w:World): (zeroValue 113).run Tryz.prog w = .ok (cev (0,0) (0,0)) w:=by kernel_rfl
theorem TabAt.look{W:World}{b n:Nat}{m:List Tab.En}(h:TabAt W b n m){nd k:Int}(ht:thereB nd k=true):
  (Instr.lookup 292 (.map (some b)) (ceK nd k) false).run Tryz.prog W = .ok (cev (getT m nd k).1 (getT m nd k).2) W:=by
 obtain⟨D,ho,hD⟩:=h;obtain⟨kl,hk⟩:=(thereB_at ht (0,0)).kl;obtain⟨v,ps,hr,hR⟩:=World.ownsMap.lookup ho cell_law Tryz.underlying292 (zeroCells W) (ceR_mk (0,0) (0,0)) hk;rw[hD.found ht hk] at hR;obtain⟨c,hv,hd⟩:=ceR_inv hR;injection hd with hd1 _
 obtain⟨e1,e2⟩:=ceDat_inj hd1;rw[hr,hv,←e1,←e2]
theorem rows_keepB{α:Type}{k:Nat}{enc:α→List Value}{w w':World}{v:Value}{l:List α}{b:Nat}(h:RowsAt k enc w v l)(hk:Keep b w w')(hb:∀c t f,w.heap[b]? ≠ some (.cells c t f)): RowsAt k enc w' v l:=by
 obtain⟨a,cap,rfl,hm,hx⟩:=h;refine⟨a,cap,rfl,hm,fun hne=>?_⟩;obtain⟨q,off,rfl,hc⟩:=hx hne;refine⟨q,off,rfl,fun i x hi j u hu=>?_⟩;have h1:=hc i x hi j u hu;have h2:=World.block_lt_of_cell? w _ h1
 have hq:q≠b:=by
  rintro rfl;unfold World.cell? at h1;split at h1
  ·rename_i e
   exact hb _ _ _ e
  ·cases h1
 unfold World.cell? at h1 ⊢;simp only at h1 h2 ⊢;rw[hk.2 q h2 hq];exact h1
theorem TabAt.nocells{W:World}{b n:Nat}{m:List Tab.En}(h:TabAt W b n m): ∀c t f,W.heap[b]? ≠ some (.cells c t f):=by
 obtain⟨D,⟨es,c,h1,-⟩,-⟩:=h;intro c t f e;rw[h1] at e;cases e
theorem TableAt.keep{W W':World}{t b b2 n:Nat}{m:List Tab.En}(h:TableAt W t b n m)(hk:Keep b2 W W')(h1:t≠b2)(h2:b≠b2): TableAt W' t b n m :=
 ⟨by rw[hk.2 t (heap_lt h.1) h1];exact h.1,h.2.same (hk.2 b h.2.lt h2)⟩
theorem TableAt.put{W W':World}{t b n n':Nat}{m m':List Tab.En}(h:TableAt W t b n m)(hk:Keep b W W')(hm:TabAt W' b n' m'): TableAt W' t b n' m' :=
 ⟨by rw[hk.2 t (heap_lt h.1) h.ne];exact h.1,hm⟩
def lessT(m l:List Tab.En): List Tab.En:=l.foldl (fun m x=>m.filter fun y=>Tab.num y != Tab.num x) m
theorem lessT_succ{m l:List Tab.En}{k:Nat}(hk:k<l.length): lessT m (l.take (k+1))=(lessT m (l.take k)).filter fun y=>Tab.num y != Tab.num l[k]:=by
 unfold lessT;rw[List.take_succ_eq_append_getElem hk,List.foldl_append];rfl
theorem lessT_mem:∀{l m:List Tab.En} {y:Tab.En},y∈lessT m l↔y∈m∧∀x∈l,Tab.num y≠Tab.num x
 | [],m,y=>by unfold lessT;simp
 |x::l,m,y=>by
  have:lessT m (x::l)=lessT (m.filter fun y=>Tab.num y != Tab.num x) l:=rfl;rw[this,lessT_mem,List.mem_filter];simp only[bne_iff_ne,List.mem_cons,forall_eq_or_imp,and_assoc]
theorem lessT_sub:∀(l m:List Tab.En),(lessT m l).Sublist m
 | [],m=>List.Sublist.refl _
 | x::l,m=>(lessT_sub l (m.filter fun y=>Tab.num y != Tab.num x)).trans List.filter_sublist
theorem sub_same{α:Type}: ∀{a b m:List α},a.Sublist m→b.Sublist m→m.Nodup→(∀x,x∈a↔x∈b)→a=b
 |[],b,_,_,_,_,h=>by
  cases b with
  | nil=>rfl
  | cons x b=>exact absurd ((h x).2 (List.mem_cons_self ..)) (by simp)
 | x::a,[],_,_,_,_,h=>absurd ((h x).1 (List.mem_cons_self ..)) (by simp)
 |x::a,y::b,m,ha,hb,hn,h=>by
  induction m with
  | nil=>cases ha
  |cons z m ih =>
   obtain⟨hz,hm⟩:=List.nodup_cons.1 hn;by_cases hxz:x=z
   ·subst hxz;by_cases hyx:y=x
    ·subst hyx;have ha':=(List.cons_sublist_cons.1 ha);have hb':=(List.cons_sublist_cons.1 hb)
     rw[sub_same ha' hb' hm fun u=>by
      constructor
      ·intro hu;rcases List.mem_cons.1 ((h u).1 (List.mem_cons_of_mem _ hu)) with rfl|h2
       ·exact absurd (ha'.subset hu) hz
       ·exact h2
      ·intro hu;rcases List.mem_cons.1 ((h u).2 (List.mem_cons_of_mem _ hu)) with rfl|h2
       ·exact absurd (hb'.subset hu) hz
       ·exact h2]
    ·exfalso
     have hb':(y::b).Sublist m:=by
      cases hb with
      | cons _ h=>exact h
      | cons_cons _ h=>exact absurd rfl hyx
     exact hz (hb'.subset ((h x).1 (List.mem_cons_self ..)))
   ·have ha':(x::a).Sublist m:=by
     cases ha with
     | cons _ h=>exact h
     | cons_cons _ h=>exact absurd rfl hxz
    by_cases hyz:y=z
    ·exfalso;subst hyz;exact hz (ha'.subset ((h y).2 (List.mem_cons_self ..)))
    ·have hb':(y::b).Sublist m:=by
      cases hb with
      | cons _ h=>exact h
      | cons_cons _ h=>exact absurd rfl hyz
     exact ih ha' hb' hm
theorem lessT_of{m s:List Tab.En}{p:Tab.En→Bool}(hu:UnE m)(hs:s.Perm (m.filter p)): lessT m s=m.filter fun x=> !p x:=by
 have hn:m.Nodup:=by
  rw[List.nodup_iff_pairwise_ne];exact hu.imp fun h e=>h (by rw[e])
 refine sub_same (lessT_sub s m) List.filter_sublist hn fun y=>?_
 rw[lessT_mem,List.mem_filter];constructor
 ·rintro⟨h1,h2⟩;refine⟨h1,?_⟩;cases hp:p y
  ·rfl
  ·exact absurd rfl (h2 y (hs.mem_iff.2 (List.mem_filter.2 ⟨h1,hp⟩)))
 ·rintro⟨h1,h2⟩;refine⟨h1,fun x hx e=>?_⟩;obtain⟨h3,h4⟩:=List.mem_filter.1 (hs.mem_iff.1 hx);rw[un_eq hu h1 h3 e,h4] at h2;cases h2
def DropPost(w0 W:World)(t b n:Nat)(m:List Tab.En)(e:Ending)(W':World): Prop:=e = .returned (.tuple #[])∧TableAt W' t b n m∧Grew w0 W'∧Keep b W W'
theorem tabDrop_any(w0 W:World)(t b n:Nat)(m:List Tab.En)(hT:TableAt W t b n m)(hu:OkT m)(hg:Grew w0 W)(hb:w0.heap.size≤b)(nd:Int)(gs:List Int)(vg:Value)(hgs:IntsAt W vg gs):
  Calls Tryz.prog 220 #[.pointer (some ⟨t,0,none⟩),.int .i64 nd,vg] W (DropPost w0 W t b n (m.filter fun x=> !ofP nd gs x)):=by
 have HT:=hY hT;have HU:=hY hu;have HG:=hY hg;have HGS:=hY hgs;obtain⟨ag,cg,rfl⟩:=hgs.len;have hlen:=len512 hu.there hu.un;have hfl:=List.length_filter_le (ofP nd gs) m;have tc:=cell_of (o:=0) hT.1;simp at tc;have pt:=Pre.mk (heap_lt hT.1);have HNE:=hY hT.ne;have HBW:=hY hT.2.lt;clear hT hu hg hgs;go_enter Tryz.func220,Tryz.ntmps220
 go_wp2_with (go_at_call 235;go_loud (refine(tabOf_any _ t b n m (HT.o.grew gw) nd gs _ (HGS.o.grew gw)).mono ?_);rintro e w1 ⟨v,s,rfl,h1,h2,h3,h4⟩;obtain⟨asl,cs,rfl⟩:=(OwnAt.rows h1 encEn_len).len;(have HS:=hY (OwnAt.rows h1 encEn_len));(have HP:=hY h2);(have HG1:=hY h4);(have HSL:=hY h2.length_eq);clear h1 h2 h3 h4)
 have hsb:s.length≤512:=by rw[HSL.o];omega
 have HSM:Hid (∀x∈s,ofP nd gs x=true∧x∈m):=hY fun x hx=>let q:=List.mem_filter.1 (HP.o.mem_iff.1 hx);⟨q.2,q.1⟩
 have HT1:=hY (HT.o.grew HG1.o)
 go_loopg [13] s.length (fun gg s13 wr=>∃k:Nat,k≤s.length∧s.length-k≤gg∧s13 = .int .i64 k∧Hid (TableAt wr t b n (lessT m (s.take k)))∧Hid (Grew w0 wr)∧Hid (Keep b w1 wr))
 case atStart=>exact⟨0,by omega,by omega,rfl,HT1,hY (HG.o.trans HG1.o),hY (Keep.ofGrew (Grew.refl _))⟩
 case round =>
  obtain⟨k,hk,hgg,rfl,HTR,HGR,HKR⟩:=hrel;by_cases hlt:k<s.length
  ·have hrows:EntsAt wr (.slice asl s.length cs) s:=rows_keepB HS.o HKR.o (fun c t f=>TabAt.nocells HT1.o.2 c t f);obtain⟨a',cap',e,-,hx⟩:=EntsAt.open6 hrows;cases e;obtain⟨q,off,rfl,hq,c0,c1,c2,c3,c4,c5⟩:=hx k hlt;have HNS:=hY (lessT_succ (m:=m) hlt);obtain⟨h1,h2⟩:=HSM.o s[k] (List.getElem_mem hlt);have hth:=HU.o.there _ h2;have hnd:s[k].node=nd:=by unfold ofP at h1;simp at h1;exact h1.1
   clear hx hrows h1 h2;generalize s[k]=x at *;obtain⟨xn,ky,⟨p0,q0⟩,⟨p1,q1⟩⟩:=x;simp only at c0 c1 c2 c3 c4 c5 hnd;subst hnd;have HTH:=hY hth;have tcr:=cell_of (o:=0) HTR.o.1;simp at tcr;have ptr:=Pre.mk (heap_lt HTR.o.1);clear hth;go_wp2;refine wp_region_seq 8 Tryz.mixed (by kernel_rfl) (by kernel_rfl) ?_
   iterate 8
    apply Seq.val
    focus
     rintro w1 u ⟨R1,n1,rfl⟩ hF;simp[moreFacts,Fact.more,Oper.deps,Region.binds,List.filter_cons,World.more_drew] at hF;simp[putFacts,Oper.deps,Region.binds,List.filter_cons,Region.dstOf,Fact.at,Act.put,World.more_drew];go_wp2;exact⟨gw,rfl,_,_,rfl,rfl,rfl⟩
   rintro u w1 ⟨R1,n1,rfl⟩ hF;clear hF;simp[putFacts,Region.dstOf,Fact.at,Act.put,List.range_succ,World.more_drew];refine wpList_tabDel (w0:=w0) rfl (.tmp 20) (.tmp 24) rfl (HGR.o.trans gw) hb rfl (HTR.o.2.grew gw) ⟨xn,ky,(p0,q0),(p1,q1)⟩ HTH.o rfl ?_;intro W5 h5 g5 k5;have H5:=hY h5;have G5:=hY g5;have K5:=hY k5;clear h5 g5 k5;go_wp2
   go_roundg (s.length-(k+1))
   case measure=>omega
   case rel=>exact⟨k+1,by omega,by omega,by go_num,hY ⟨by rw[K5.out.2 t (by have:=heap_lt HTR.o.1;simp[go_sem];omega) HNE.o];exact(HTR.o.grew gw).1,by rw[HNS.o];exact H5.o⟩,G5,hY (HKR.o.trans ((Keep.ofGrew gw).trans K5.out))⟩
  ·obtain rfl:k=s.length:=by omega
   have hT:=HTR.o;rw[List.take_length,lessT_of HU.o.un HP.o] at hT;have HT9:=hY hT;clear hT;go_wp2;refine bodyPost_ret (v:=.tuple #[]) (by simp[results,Tryz.results220,go_sem]) rfl ?_;exact⟨rfl,HT9.o,HGR.o,(Keep.ofGrew HG1.o).trans HKR.o⟩
end Go.Proofs.YtipgfjihdglocaaGreat
