import Derived.Test.YtipgfjihdglocaaGreatCw0
import Derived.Test.YtipgfjihdglocaaGreatCw9
import Derived.Test.YtipgfjihdglocaaGreatCw4
import Derived.Test.YtipgfjihdglocaaGreatCw10
import Derived.Test.YtipgfjihdglocaaGreatCw6
import Derived.Deep.RegionLaw
import Derived.Deep.RegionHeld3
import Derived.Lib.SlicesCompact
import Derived.Test.YtipgfjihdglocaaGreatCw5
import Derived.Deep.LoopGhost
set_option linter.unusedSimpArgs false
set_option linter.unusedVariables false
set_option maxRecDepth 100000
set_option maxHeartbeats 64000000
namespace Go.Proofs.YtipgfjihdglocaaGreat
open Go.RowKit Ga
def MadeOf(P:Value→World→Prop)(w:World)(e:Ending)(w':World): Prop:=∃v,e = .returned v∧P v w'∧Grew w w'
theorem cloneInts_any(v:Value)(l:List Int)(w:World)(hv:IntsAt w v l)(hl:l.length≤1000): Calls Tryz.prog 80 #[v] w (MadeOf (fun v' w'=>OwnAt w.heap.size 3 1 encN w' v' l) w):=by
 obtain⟨a,cap,rfl,hm,hx⟩:=ints_open hv
 cases a with
 |none =>
  have h0:l=[]:=by
   cases l with
   | nil=>rfl
   | cons x l=>obtain⟨b,off,h,_⟩:=hx 0 (by simp);cases h
  subst h0
  exact(Tryz.slices_Clone_int_nil _ _ _).mono fun e w' ⟨he,hw⟩=>⟨_,he,OwnAt.nil _,hw▸Grew.refl w⟩
 |some ad =>
  cases l with
  | nil=>exact(Tryz.slices_Clone_int_zero ad cap w).mono fun e w' ⟨v',he,ho,_,hb⟩=>⟨v',he,ho,Grew.ofBelow hb⟩
  |cons x l =>
   obtain⟨b,off,h,_⟩:=hx 0 (by simp);cases h;refine(Tryz.slices_Clone_int b off _ cap (x::l) w (Nat.le_refl _) (by simp at hl ⊢;omega) fun j hj=>?_).mono fun e w' ⟨v',he,ho,_,hb⟩=>⟨v',he,?_,Grew.ofBelow hb⟩
   ·obtain⟨b',off',h,_,hc⟩:=hx j hj;cases h;rw[List.getD_eq_getElem?_getD,List.getElem?_eq_getElem hj];exact hc
   ·unfold OwnAt;rw[List.take_of_length_le (Nat.le_refl _)] at ho
    have e1:(x::l).flatMap encN=(x::l).map (Value.int .i64):=by
     generalize x::l=l
     induction l with
     | nil=>rfl
     | cons x l ih=>rw[List.flatMap_cons,ih];rfl
    rw[e1];exact ho
theorem addr_add(b off j:Nat): (⟨b,off,none⟩:Addr).add j=⟨b,off+j,none⟩:=by
 unfold Addr.add;split
 ·rename_i h;have:j=0:=by simpa using h
  rw[this];rfl
 ·rfl
theorem cloneVals_any(v:Value)(l:List Val)(w:World)(hv:ValsAt w v l)(hl:l.length≤1000): Calls Tryz.prog 153 #[v] w (MadeOf (fun v' w'=>OwnAt w.heap.size 187 2 encI w' v' l) w):=by
 obtain⟨a,cap,rfl,hm,hx⟩:=hv
 cases a with
 |none =>
  have h0:l=[]:=by
   cases l with
   | nil=>rfl
   | cons x l=>obtain⟨b,off,h,_⟩:=hx (by simp);cases h
  subst h0
  exact(AnyE.slices_Clone_nil Tryz.cloneInstr _ _ _).mono fun e w' ⟨he,hw⟩=>⟨_,he,OwnAt.nil _,hw▸Grew.refl w⟩
 |some ad =>
  have hnews:∀j u,(l.flatMap encI)[j]? = some u→(w.alloc (.cells #[] 187)).cell? (ad.add j)=some u:=by
   intro j u hj;obtain⟨q,y,r,h1,h2,rfl⟩:=flat_inv encI_len l j u hj;obtain⟨b,off,h,hc⟩:=hx (by intro e;subst e;simp at h1);cases h;rw[addr_add];have h3:=hc q y h1 r u h2;rw[Nat.add_assoc] at h3;exact Lib.cell?_alloc_some _ h3
  have HN:=hY hnews;obtain⟨i,hi,hz0,hz1,hz2⟩:=info_parts infoIns;have q22:∀(w:World) (a:Option Addr) (n c n' c':Nat),(binOp .eql 49 (.slice a n c) (.slice none n' c')).run Tryz.prog w = .ok (.bool a.isNone) w:=fun w a n c n' c'=>Lib.run_eql_slice_nil w _ _ a n c n' c' Tryz.underlying49
  clear hnews hx;go_enter Tryz.func153,Tryz.ntmps153
  go_wp2_with (at_builtin;refine wpList_append_own _ rfl _ _ 49 rfl w.heap.size 187 i _ 2 16 Tryz.underlying49 hi hz0 hz1 hz2 rfl (by decide) _ _ _ rfl (World.ownsRow_made w #[] 0 (Nat.le_refl _) (Nat.zero_le _) rfl) ad l.length cap (l.flatMap encI) rfl (flat_length encI_len l) HN.o (by intro u hu;obtain⟨y,_,hy⟩:=List.mem_flatMap.1 hu;exact encI_one y u hy) (by unfold maxLen;omega) (by omega) (by simp) ?_)
  intro v' w1 hown hgrow hnil;go_wp2;go_ret;refine⟨v',rfl,?_,Grew.ofBelow (((Below.refl _ w).alloc (Nat.le_refl _) _).grown hgrow (by simp) (by intro k hk;simp[Value.ownBlock] at hk;omega))⟩;unfold OwnAt;simpa using hown
theorem heap_more_same{W W':World}(hs:W.heap.size=W'.heap.size)(R:Array Obj)(n b:Nat)(hb:W.heap.size≤b): (W'.more R n).heap[b]? = (W.more R n).heap[b]? :=by
 rw[heap_more_in W R n b hb,heap_more_in W' R n b (by omega),hs]
def OwnsNd(base:Nat)(w:World)(c:NdC)(n:Gr.Nd): Prop:=OwnAt base 3 1 encN w c.vf n.frm∧OwnAt base 187 2 encI w c.vp n.prog
theorem OwnsNd.to{base:Nat}{w w':World}{c:NdC}{n:Gr.Nd}(o:OwnsNd base w c n)(hb:∀b,base≤b→b<w.heap.size→w'.heap[b]? = w.heap[b]?): OwnsNd base w' c n:=by
 refine⟨OwnAt.same o.1 fun b h=>?_,OwnAt.same o.2 fun b h=>?_⟩
 ·obtain⟨h1,_,h2⟩:=OwnAt.block o.1 h;exact hb b h1 (heap_lt h2)
 ·obtain⟨h1,_,h2⟩:=OwnAt.block o.2 h;exact hb b h1 (heap_lt h2)
theorem OwnsNd.is{base:Nat}{w w':World}{c:NdC}{n:Gr.Nd}(o:OwnsNd base w' c n)(h:NodeIs w c n): NodeIs w' c n :=
 { h with f:=o.1.rows encN_len,p:=o.2.rows encI_len }
theorem OwnsNd.low{base base':Nat}{w:World}{c:NdC}{n:Gr.Nd}(o:OwnsNd base w c n)(hb:base'≤base): OwnsNd base' w c n:=⟨OwnAt.low o.1 hb,OwnAt.low o.2 hb⟩
theorem OwnsNd.grew{base:Nat}{w w':World}{c:NdC}{n:Gr.Nd}(o:OwnsNd base w c n)(g:Grew w w'): OwnsNd base w' c n:=⟨o.1.grew g,o.2.grew g⟩
def GivesNode(n:Gr.Nd)(w:World)(e:Ending)(w':World): Prop:=∃c:NdC,e = .returned (.agg #[.int .i64 c.id,.int .i64 c.kind,.slice c.af c.nf c.cf,.slice c.ap c.np c.cp,.int .i64 c.par,.int .i64 c.r0,.int .i64 c.r1,.int .i64 c.r2,.int .i64 c.r3,.int .i64 c.r4,.int .i64 c.r5,.int .i64 c.r6,.int .i64 c.r7])∧NodeIs w' c n∧OwnsNd w.heap.size w' c n∧Grew w w'
theorem OwnAt.cap{α:Type}{base:Nat}{e:TypeId}{k:Nat}{enc:α→List Value}{w:World}{a:Option Addr}{n cap:Nat}{l:List α}(h:OwnAt base e k enc w (.slice a n cap) l): l.length≤cap:=by
 obtain⟨h1,h2⟩:=h;rcases h2 with ⟨h,h0⟩|⟨g,cap',cur,hv,hb,hh,hc,r⟩
 ·rw[h0];exact Nat.zero_le _
 ·cases hv;exact hc
theorem node_made{w w':World}(c:NdC){c0:NdC}{n:Gr.Nd}(h:NodeIs w c0 n)(ei:c0.id=c.id)(ek:c0.kind=c.kind)(ep:c0.par=c.par)(e0:c0.r0=c.r0)(e1:c0.r1=c.r1)(e2:c0.r2=c.r2)(e3:c0.r3=c.r3)(e4:c0.r4=c.r4)(e5:c0.r5=c.r5)(e6:c0.r6=c.r6)(e7:c0.r7=c.r7)
  (o1:OwnAt w.heap.size 3 1 encN w' c.vf n.frm) (o2:OwnAt w.heap.size 187 2 encI w' c.vp n.prog) (g:Grew w w'):GivesNode n w (.returned (.agg #[.int .i64 c.id,.int .i64 c.kind,.slice c.af c.nf c.cf,.slice c.ap c.np c.cp,.int .i64 c.par,.int .i64 c.r0,.int .i64 c.r1,.int .i64 c.r2,.int .i64 c.r3,.int .i64 c.r4,.int .i64 c.r5,.int .i64 c.r6,.int .i64 c.r7])) w' :=
 ⟨c,rfl,⟨h.id.trans ei,h.kind.trans ek,o1.rows encN_len,o2.rows encI_len,h.par.trans ep,by rw[h.route,e0,e1,e2,e3,e4,e5,e6,e7],OwnAt.cap o1⟩,⟨o1,o2⟩,g⟩
theorem own_any(c:NdC)(n:Gr.Nd)(w:World)(hn:NodeIs w c n)(hf:n.frm.length≤1000)(hp:n.prog.length≤1000): Calls Tryz.prog 115 #[.agg #[.int .i64 c.id,.int .i64 c.kind,.slice c.af c.nf c.cf,.slice c.ap c.np c.cp,.int .i64 c.par,.int .i64 c.r0,.int .i64 c.r1,.int .i64 c.r2,.int .i64 c.r3,.int .i64 c.r4,.int .i64 c.r5,.int .i64 c.r6,.int .i64 c.r7]] w (GivesNode n w):=by
 obtain⟨id,kind,af,cf,ap,cp,par,r0,r1,r2,r3,r4,r5,r6,r7,rfl⟩:=hn.lit;have HN:=hY hn;clear hn;have h1:=fun W (g:Grew w W)=>cloneInts_any _ n.frm W (HN.o.f.grew g) hf
 have h2:=fun W (g:Grew w W)=>cloneVals_any _ n.prog W (HN.o.p.grew g) hp
 have H1:=hY h1;have H2:=hY h2;clear h1 h2;show Calls Tryz.prog 115 #[.agg #[.int .i64 id,.int .i64 kind,.slice af n.frm.length cf,.slice ap n.prog.length cp,.int .i64 par,.int .i64 r0,.int .i64 r1,.int .i64 r2,.int .i64 r3,.int .i64 r4,.int .i64 r5,.int .i64 r6,.int .i64 r7]] w _;go_enter Tryz.func115,Tryz.ntmps115
 go_wp2_with fail
 refine wp_region_noPanic ?_
 go_region_law (first
  | (go_simp;go_at_call 80;refine(H1.o _ gw).mono ?_;rintro e w1 ⟨v1,rfl,ho1,R3,n3,rfl⟩;obtain⟨a1,c1,rfl⟩:=(ho1.rows encN_len).len;(have HO1:=hY ho1);clear ho1)
  | (go_simp;go_at_call 153;refine(H2.o _ gw).mono ?_;rintro e w1 ⟨v2,rfl,ho2,R4,n4,rfl⟩;obtain⟨a2,c2,rfl⟩:=(ho2.rows encI_len).len;(have HO2:=hY ho2);clear ho2))
 all_goals
  refine NoPanic.normal ?_;go_wp2;refine bodyPost_ret (v:=.agg #[.int .i64 id,.int .i64 kind,.slice a1 n.frm.length c1,.slice a2 n.prog.length c2,.int .i64 par,.int .i64 r0,.int .i64 r1,.int .i64 r2,.int .i64 r3,.int .i64 r4,.int .i64 r5,.int .i64 r6,.int .i64 r7]) (by simp[results,Tryz.results115,go_sem]) rfl ?_
  refine node_made ⟨id,kind,a1,n.frm.length,c1,a2,n.prog.length,c2,par,r0,r1,r2,r3,r4,r5,r6,r7⟩ HN.o rfl rfl rfl rfl rfl rfl rfl rfl rfl rfl rfl
   (OwnAt.low (OwnAt.grew (OwnAt.same HO1.o fun b hb=>heap_more_same (by simp[World.size_alloc]) _ _ _ (by have:=HO1.o.lt b hb;simp[World.size_alloc] at this ⊢;omega)) (Grew.more (Grew.refl _) R4 n4)) (by simp[World.size_alloc];omega))
   (OwnAt.low (OwnAt.same HO2.o fun b hb=>heap_more_same (by simp[World.size_alloc,World.more_size]) _ _ _ (by have:=HO2.o.lt b hb;simp[World.size_alloc,World.more_size] at this ⊢;omega)) (by simp[World.size_alloc,World.more_size];omega)) gw
def idxP{α:Type}(p:α→Bool)(l:List α): Int:=match l.findIdx? p with
 | some i=>i
 | none=>-1
theorem idxP_at{α:Type}{p:α→Bool}{l:List α}{k:Nat}(hk:k<l.length)(h:p l[k]=true)(hn:∀j (hj:j<l.length),j<k→p l[j]=false): idxP p l=k:=by
 unfold idxP;rw[List.findIdx?_eq_some_iff_getElem.2 ⟨hk,h,fun j hj=>by simpa using hn j (by omega) hj⟩]
theorem idxP_no{α:Type}{p:α→Bool}{l:List α}(hn:∀j (hj:j<l.length),p l[j]=false): idxP p l = -1:=by
 unfold idxP
 rw[List.findIdx?_eq_none_iff.2 fun n hm=>by
  obtain⟨j,hj,rfl⟩:=List.mem_iff_getElem.1 hm
  exact hn j hj]
theorem idxP_any{α:Type}{p:α→Bool}{l:List α}: l.any p=decide (0≤idxP p l):=by
 unfold idxP
 cases h:l.findIdx? p with
 |none =>
  rw[List.findIdx?_eq_none_iff] at h;have:l.any p=false:=List.any_eq_false.2 fun x hx=>by simp[h x hx]
  rw[this];rfl
 |some i =>
  obtain⟨hi,h1,-⟩:=List.findIdx?_eq_some_iff_getElem.1 h;have:l.any p=true:=List.any_eq_true.2 ⟨_,List.getElem_mem hi,h1⟩;rw[this]
  symm
  simp
def PredI(g:Nat)(lb:Array Value)(p:Int→Bool)(w:World): Prop:=∀W x,Grew w W→Calls Tryz.prog g (#[.int .i64 x]++lb) W (Gives (.bool (p x)) W)
theorem indexInts_any(v:Value)(l:List Int)(g:Nat)(lb:Array Value)(p:Int→Bool)(w:World)(hv:IntsAt w v l)(eg:∀args w,(callFunc g args).run Tryz.prog w = .ok (.enter g args) w)(hp:PredI g lb p w):
  Calls Tryz.prog 133 #[v,.func (.func g) #[] lb] w (Gives (.int .i64 (idxP p l)) w):=by
 have HV:=hY hv;have HP:=hY hp;obtain⟨a,cap,rfl,hm,-⟩:=ints_open hv;clear hv hp;go_enter Tryz.func133,Tryz.ntmps133;go_wp2
 go_loopg [5,8] l.length (fun gg _ s8 wr=>∃k:Nat,k≤l.length∧l.length-k≤gg∧s8 = .int .i64 k∧Hid (Grew w wr)∧Hid (∀j (hj:j<l.length),j<k→p l[j]=false))
 case atStart=>exact⟨0,Nat.zero_le _,by omega,rfl,hY gw,hY fun j _ h=>by omega⟩
 case round =>
  obtain⟨k,hk,hgg,rfl,HG,HNO⟩:=hrel;by_cases hlt:k<l.length
  ·obtain⟨a',cap',e,-,hx⟩:=ints_open (HV.o.grew HG.o);cases e;obtain⟨b,off,rfl,hb,c0⟩:=hx k hlt;have hcall:=HP.o wr l[k] HG.o;clear hx;generalize hy:l[k]=y at c0 hcall;have HY:=hY hy;clear hy
   cases hq:p y with
   |true =>
    have hr:=idxP_at hlt (by rw[HY.o];exact hq) HNO.o;have HR:=hY hr;rw[hq] at hcall;clear hr hq
    go_wp2_with (go_at_fn g;refine hcall.mono ?_;rintro e w1 ⟨rfl,R3,n3,rfl⟩)
    go_ret
    exact⟨by rw[HR.o];rfl,HG.o.trans gw⟩
   |false =>
    have HQ:=hY hq;rw[hq] at hcall;clear hq
    go_wp2_with (go_at_fn g;refine hcall.mono ?_;rintro e w1 ⟨rfl,R3,n3,rfl⟩)
    go_roundg (l.length-(k+1))
    case measure=>omega
    case rel=>exact⟨k+1,by omega,by omega,by go_num,hY (HG.o.trans gw),hY fun j hj h=>by
     rcases Nat.lt_or_ge j k with h1|h1
     ·exact HNO.o j hj h1
     ·obtain rfl:j=k:=by omega
      rw[HY.o]
      exact HQ.o⟩
  ·obtain rfl:k=l.length:=by omega
   have hr:=idxP_no fun j hj=>HNO.o j hj hj
   have HR:=hY hr;clear hr;go_wp2;go_ret;exact⟨by rw[HR.o];rfl,HG.o⟩
theorem containsFn_any(v:Value)(l:List Int)(g:Nat)(lb:Array Value)(p:Int→Bool)(w:World)(hv:IntsAt w v l)(eg:∀args w,(callFunc g args).run Tryz.prog w = .ok (.enter g args) w)(hp:PredI g lb p w):
  Calls Tryz.prog 79 #[v,.func (.func g) #[] lb] w (Gives (.bool (l.any p)) w):=by
 rw[idxP_any];have hI:=indexInts_any v l g lb p w hv eg hp;obtain⟨a,cap,rfl,hm,-⟩:=ints_open hv;clear hv hp;generalize idxP p l=r at *;go_enter Tryz.func79,Tryz.ntmps79
 go_wp2_with (go_at_call 133;refine hI.mono ?_;rintro e w1 ⟨rfl,R3,n3,rfl⟩)
 go_ret;refine⟨rfl,?_⟩;exact gw
theorem containsI_any(v:Value)(l:List Int)(x:Int)(w:World)(hv:IntsAt w v l): Calls Tryz.prog 31 #[v,.int .i64 x] w fun e w'=>e = .returned (.bool (decide (x∈l)))∧w'=w:=by
 obtain⟨a,cap,rfl,hm,hx⟩:=ints_open hv
 cases l with
 |nil =>
  refine(Tryz.slices_Contains_int_empty a cap x w).mono fun e w' ⟨he,hw⟩=>⟨?_,hw⟩
  rw[he];simp
 |cons y l =>
  obtain⟨b,off,h,_⟩:=hx 0 (by simp);cases h;refine(Tryz.slices_Contains_int b off _ cap (y::l) x w (Nat.le_refl _) (by omega) fun j hj=>?_).mono fun e w' ⟨he,hw⟩=>⟨?_,hw⟩
  ·obtain⟨b',off',h,_,hc⟩:=hx j hj;cases h;rw[List.getD_eq_getElem?_getD,List.getElem?_eq_getElem hj];exact hc
  ·rw[he,List.take_of_length_le (Nat.le_refl _)];simp
def PredN(g:Nat)(lb:Array Value)(p:Gr.Nd→Bool)(w:World): Prop:=∀W c n,Grew w W→NodeIs W c n→Calls Tryz.prog g (#[.agg #[.int .i64 c.id,.int .i64 c.kind,.slice c.af c.nf c.cf,.slice c.ap c.np c.cp,.int .i64 c.par,.int .i64 c.r0,.int .i64 c.r1,.int .i64 c.r2,.int .i64 c.r3,.int .i64 c.r4,.int .i64 c.r5,.int .i64 c.r6,.int .i64 c.r7]]++lb) W (Gives (.bool (p n)) W)
theorem indexNodes_any(v:Value)(l:List Gr.Nd)(g:Nat)(lb:Array Value)(p:Gr.Nd→Bool)(w:World)(hv:NodesAt w v l)(eg:∀args w,(callFunc g args).run Tryz.prog w = .ok (.enter g args) w)(hp:PredN g lb p w):
  Calls Tryz.prog 109 #[v,.func (.func g) #[] lb] w (Gives (.int .i64 (idxP p l)) w):=by
 have HV:=hY hv;have HP:=hY hp;obtain⟨a,cap,rfl,hm,-⟩:=hv.openC;clear hv hp;go_enter Tryz.func109,Tryz.ntmps109;go_wp2
 go_loopg [5,8] l.length (fun gg _ s8 wr=>∃k:Nat,k≤l.length∧l.length-k≤gg∧s8 = .int .i64 k∧Hid (Grew w wr)∧Hid (∀j (hj:j<l.length),j<k→p l[j]=false))
 case atStart=>exact⟨0,Nat.zero_le _,by omega,rfl,hY gw,hY fun j _ h=>by omega⟩
 case round =>
  obtain⟨k,hk,hgg,rfl,HG,HNO⟩:=hrel;by_cases hlt:k<l.length
  ·obtain⟨a',cap',e,-,hx⟩:=(HV.o.grew HG.o).openC;cases e;obtain⟨b,off,c,rfl,hb,hn,c0,c1,c2,c3,c4,c5,c6,c7,c8,c9,c10,c11,c12⟩:=hx k hlt;have hcall:=HP.o wr c l[k] HG.o hn;clear hx hn;generalize hy:l[k]=y at hcall;have HY:=hY hy;clear hy;obtain⟨id,kind,af,nf,cf,ap,np,cp,par,r0,r1,r2,r3,r4,r5,r6,r7⟩:=c;simp only at c0 c1 c2 c3 c4 c5 c6 c7 c8 c9 c10 c11 c12 hcall
   cases hq:p y with
   |true =>
    have hr:=idxP_at hlt (by rw[HY.o];exact hq) HNO.o;have HR:=hY hr;rw[hq] at hcall;clear hr hq
    go_wp2_with (go_at_fn g;refine hcall.mono ?_;rintro e w1 ⟨rfl,R3,n3,rfl⟩)
    go_ret
    exact⟨by rw[HR.o];rfl,HG.o.trans gw⟩
   |false =>
    have HQ:=hY hq;rw[hq] at hcall;clear hq
    go_wp2_with (go_at_fn g;refine hcall.mono ?_;rintro e w1 ⟨rfl,R3,n3,rfl⟩)
    go_roundg (l.length-(k+1))
    case measure=>omega
    case rel=>exact⟨k+1,by omega,by omega,by go_num,hY (HG.o.trans gw),hY fun j hj h=>by
     rcases Nat.lt_or_ge j k with h1|h1
     ·exact HNO.o j hj h1
     ·obtain rfl:j=k:=by omega
      rw[HY.o]
      exact HQ.o⟩
  ·obtain rfl:k=l.length:=by omega
   have hr:=idxP_no fun j hj=>HNO.o j hj hj
   have HR:=hY hr;clear hr;go_wp2;go_ret;exact⟨by rw[HR.o];rfl,HG.o⟩
theorem keeps_iff(s:List Int)(j:Nat)(hj:j<s.length)(h0:0<j): Lib.keeps s.toArray j=true↔s[j]≠s[j-1]'(by omega):=by
 unfold Lib.keeps;rw[decide_eq_true_eq];have e1:s.toArray[j]! = s[j]:=by rw[getElem!_pos s.toArray j (by simpa using hj)];simp
 have e2:s.toArray[j-1]! = s[j-1]'(by omega):=by rw[getElem!_pos s.toArray (j-1) (by simp;omega)];simp
 rw[e1,e2];exact⟨fun h=>h.resolve_left (by omega),.inr⟩
theorem compact_len(s:List Int)(hs:s.Pairwise (· ≤ ·)): (Lib.compact s).length=s.length↔s.Nodup:=by
 unfold Lib.compact Lib.compactUpTo;rw[List.length_map]
 have hf:((List.range s.length).filter (Lib.keeps s.toArray)).length=s.length↔∀j∈List.range s.length,Lib.keeps s.toArray j=true:=by
  have:=List.length_filter_eq_length_iff (p:=Lib.keeps s.toArray) (l:=List.range s.length);rw[List.length_range] at this;exact this
 rw[hf];rw[List.pairwise_iff_getElem] at hs;constructor
 ·intro h;rw[List.Nodup,List.pairwise_iff_getElem];intro i j hi hj hij he;have h1:=(keeps_iff s j hj (by omega)).1 (h j (List.mem_range.2 hj));rcases Nat.lt_or_ge i (j-1) with h2|h2
  ·have h3:=hs i (j-1) hi (by omega) h2;have h4:=hs (j-1) j (by omega) hj (by omega);exact h1 (by omega)
  ·obtain rfl:i=j-1:=by omega
   exact h1 he.symm
 ·intro h j hj;have hj:=List.mem_range.1 hj;rcases Nat.eq_zero_or_pos j with rfl|h0
  ·exact Lib.keeps_lt_one _ 0 (by omega)
  ·refine(keeps_iff s j hj h0).2 fun e=>?_
   exact(List.pairwise_iff_getElem.1 h) (j-1) j (by omega) hj (by omega) e.symm
def sortI(l:List Int): List Int:=l.mergeSort fun x y=>decide (x≤y)
theorem sortI_len(l:List Int): (sortI l).length=l.length:=List.length_mergeSort l
theorem sortI_perm(l:List Int): (sortI l).Perm l:=List.mergeSort_perm l _
theorem sortI_sorted(l:List Int): (sortI l).Pairwise (· ≤ ·):=by
 have:=List.pairwise_mergeSort (le:=fun x y:Int=>decide (x≤y)) (fun a b c h1 h2=>by simp at *;omega) (fun a b=>by simp;omega) l;exact this.imp fun h=>by simpa using h
theorem unlike_iff(l:List Int): decide ((Lib.compact (sortI l)).length=l.length)=decide l.Nodup:=by
 have h:=compact_len (sortI l) (sortI_sorted l);rw[sortI_len,(sortI_perm l).nodup_iff] at h;exact decide_eq_decide.2 h
theorem grewRow{α:Type}[Inhabited α]{enc:α→Value}{w0 W:World}(g:Grew w0 W){b off:Nat}{d:Array α}(hb:w0.heap.size≤b): Grew w0 (Sort.putRow enc W b off d) :=
 Grew.ofBelow (g.below.trans ⟨rfl,rfl,rfl,by rw[Sort.size_putRow];exact Nat.le_refl _,fun k hk=>by
  unfold Sort.putRow Sort.mapBlock;simp only[Array.getElem?_modify]
  rw[if_neg (by omega)]⟩)
theorem grewAhead{w0 W:World}(g:Grew w0 W)(n:Nat): Grew w0 (Sort.ahead W n):=g.drewN n
theorem grewOs{w0 W:World}(g:Grew w0 W)(os:Array Obj): Grew w0 (Sort.grow W os):=g.more os W.drawn
theorem own_holds{base:Nat}{W:World}{b cap n:Nat}{l:List Int}(h:OwnAt base 3 1 encN W (.slice (some ⟨b,0,none⟩) n cap) l): Sort.Holds (Value.int .i64) W b 0 l.toArray∧l.length≤cap∧base≤b∧b<W.heap.size:=by
 obtain⟨h1,h2⟩:=h;rcases h2 with ⟨h,_⟩|⟨g,cap',cur,hv,hb,hh,hc,hm,hs,ht⟩
 ·cases h
 ·cases hv;have hb':=(Array.getElem?_eq_some_iff.1 hh).1;refine⟨fun j hj=>?_,by omega,hb,hb'⟩;have hj':j<l.length:=by simpa using hj
  have e1:l.toArray[j]! = l[j]:=by rw[getElem!_pos l.toArray j hj];simp
  rw[Nat.zero_add,cell_of_heap hh,frozen_of_heap hh,e1];refine⟨?_,rfl⟩
  have h3:(l.flatMap encN)[j]? = some (.int .i64 l[j]):=by
   have:=flat_get encN_len l j l[j] (List.getElem?_eq_getElem hj') 0 (.int .i64 l[j]) rfl;simpa using this
  rw[←ht] at h3;rw[List.getElem?_take] at h3;split at h3
  ·simpa using h3
  ·cases h3
theorem unlike_any(v:Value)(l:List Int)(w:World)(hv:IntsAt w v l)(hl:l.length≤1000): Calls Tryz.prog 30 #[v] w (Gives (.bool (decide l.Nodup)) w):=by
 have hC:=cloneInts_any v l w hv hl;have hlen:decide ((Lib.compact (sortI l)).length=l.length)=decide l.Nodup:=unlike_iff l;have HL:=hY hlen;have hcl:(Lib.compact (sortI l)).length≤1000:=Nat.le_trans (Lib.compact_length_le _) (by rw[sortI_len];exact hl);obtain⟨a,cap,rfl,-⟩:=hv;clear hlen;by_cases h0:l=[]
 ·subst h0;have hd:(decide ([]:List Int).Nodup)=true:=by decide
  rw[hd];have HC:=hY hC;clear hC hd hcl HL;go_enter Tryz.func30,Tryz.ntmps30
  go_wp2_with (first
   | (go_at_call 80;refine HC.o.mono ?_;rintro e w1 ⟨v1,rfl,ho1,R3,n3,rfl⟩;obtain⟨a1,c1,rfl⟩:=(ho1.rows encN_len).len;clear ho1;simp only[List.length_nil])
   | (go_at_call 81;refine(Tryz.slices_Sort_int_none _ _ _).mono ?_;rintro e w1 ⟨rfl,hw1⟩;obtain rfl:=hw1)
   | (go_at_call 82;refine(Tryz.slices_Compact_int_empty _ _ _).mono ?_;rintro e w1 ⟨rfl,hw1⟩;obtain rfl:=hw1))
  go_ret;refine⟨rfl,?_⟩;exact gw
 ·have hpos:0<l.length:=List.length_pos_iff.2 h0;have HC:=hY hC;have HP:=hY h0;clear hC h0;go_enter Tryz.func30,Tryz.ntmps30
  go_wp2_with (first
   | (go_at_call 80;refine HC.o.mono ?_;rintro e w1 ⟨v1,rfl,ho1,hg1⟩;obtain⟨b1,c1,rfl⟩:=own_some' ho1 hpos;obtain⟨hh1,hc1,hb1,hb2⟩:=own_holds ho1;(have HH1:=hY hh1);(have HG1:=hY hg1);clear ho1 hh1 hg1)
   | (go_at_call 81;go_loud (refine(Tryz.slices_Sort_int b1 0 c1 l _ HH1.o hb2 (by omega)).mono ?_;rintro e w2 ⟨rfl,n2,os2,hw2⟩;(have hh2:Sort.Holds (Value.int .i64) w2 b1 0 (sortI l).toArray:=by rw[hw2];exact Sort.holds_grow _ _ _ _ _ _ (by rw[Sort.size_putRow];exact hb2) (Sort.holds_putRow _ _ _ _ _ _ (Sort.holds_ahead _ _ _ _ _ _ HH1.o) (by simp[sortI])));(have hg2:Grew w w2:=by rw[hw2];exact grewOs (grewRow (grewAhead HG1.o _) hb1) _);(have HH2:=hY hh2);(have HG2:=hY hg2);(have hsl:=sortI_len l);clear hh2 hg2 hw2))
   | (go_at_call 82;(have hc3:=Tryz.slices_Compact_int b1 0 c1 (sortI l) w2 HH2.o (by omega) (by omega));rw[hsl] at hc3;refine hc3.mono ?_;rintro e w3 ⟨rfl,n3,hw3⟩;(have hg3:Grew w w3:=by rw[hw3];exact grewRow (grewAhead HG2.o _) hb1);(have HG3:=hY hg3);clear hg3 hw3 hc3 hsl))
  go_ret;refine⟨?_,HG3.o⟩;show Ending.returned (.bool (((Lib.compact (sortI l)).length:Int)==(l.length:Int)))=_;rw[←HL.o];refine congrArg (fun b=>Ending.returned (Value.bool b)) ?_;rw[Bool.eq_iff_iff,beq_iff_eq,decide_eq_true_eq];omega
theorem enters130:∀args w,(callFunc 130 args).run Tryz.prog w = .ok (.enter 130 args) w:=enters_of Tryz.func130 (by kernel_rfl) rfl
theorem find1_pred(id:Int)(B:Nat)(w:World)(hB:Pre B w)(hc:w.cell? ⟨B,0,none⟩=some (.int .i64 id)): PredN 130 #[.pointer (some ⟨B,0,none⟩)] (fun n=>n.id==id) w:=by
 intro W c n g hn;obtain⟨R,N,rfl⟩:=g;have hid:=hn.id;have HI:=hY hid;clear hn hid;obtain⟨cid,kind,af,nf,cf,ap,np,cp,par,r0,r1,r2,r3,r4,r5,r6,r7⟩:=c;have hb:(n.id==id)=(cid==id):=by rw[HI.o]
 show Calls Tryz.prog 130 #[.agg #[.int .i64 cid,.int .i64 kind,.slice af nf cf,.slice ap np cp,.int .i64 par,.int .i64 r0,.int .i64 r1,.int .i64 r2,.int .i64 r3,.int .i64 r4,.int .i64 r5,.int .i64 r6,.int .i64 r7],.pointer (some ⟨B,0,none⟩)] _ (Gives (.bool (n.id==id)) _);rw[hb];clear HI hb;go_enter Tryz.func130,Tryz.ntmps130;go_wp2;go_ret;refine⟨rfl,?_⟩;exact gw
theorem find_idxP(l:List Gr.Nd)(id:Int): idxP (fun n:Gr.Nd=>n.id==id) l=findI l id:=rfl
def GivesFind(r:Option Gr.Nd)(w:World)(e:Ending)(w':World): Prop:=match r with
 | some n=>∃c:NdC,e = .returned (.tuple #[.agg #[.int .i64 c.id,.int .i64 c.kind,.slice c.af c.nf c.cf,.slice c.ap c.np c.cp,.int .i64 c.par,.int .i64 c.r0,.int .i64 c.r1,.int .i64 c.r2,.int .i64 c.r3,.int .i64 c.r4,.int .i64 c.r5,.int .i64 c.r6,.int .i64 c.r7],.bool true])∧NodeIs w' c n∧OwnsNd w.heap.size w' c n∧Grew w w'
 | none=>e = .returned (.tuple #[.agg #[.int .i64 0,.int .i64 0,.slice none 0 0,.slice none 0 0,.int .i64 0,.int .i64 0,.int .i64 0,.int .i64 0,.int .i64 0,.int .i64 0,.int .i64 0,.int .i64 0,.int .i64 0],.bool false])∧Grew w w'
theorem find_made{w w' w1:World}(c:NdC){n:Gr.Nd}(h:NodeIs w1 c n)(o:OwnsNd w.heap.size w' c n)(g:Grew w w'): GivesFind (some n) w (.returned (.tuple #[.agg #[.int .i64 c.id,.int .i64 c.kind,.slice c.af c.nf c.cf,.slice c.ap c.np c.cp,.int .i64 c.par,.int .i64 c.r0,.int .i64 c.r1,.int .i64 c.r2,.int .i64 c.r3,.int .i64 c.r4,.int .i64 c.r5,.int .i64 c.r6,.int .i64 c.r7],.bool true])) w' :=
 ⟨c,rfl,o.is h,o,g⟩
def Small(l:List Gr.Nd): Prop:=∀n∈l,n.frm.length≤1000∧n.prog.length≤1000
theorem find_any(v:Value)(l:List Gr.Nd)(id:Int)(w:World)(hv:NodesAt w v l)(hs:Small l): Calls Tryz.prog 76 #[v,.int .i64 id] w (GivesFind (Gr.nodeOf l id) w):=by
 have HV:=hY hv;have HS:=hY hs;have hI:=fun W (g:Grew w W) (B:Nat) (hB:Pre B W) (hc:W.cell? ⟨B,0,none⟩=some (.int .i64 id))=>indexNodes_any v l 130 #[.pointer (some ⟨B,0,none⟩)] (fun n=>n.id==id) W (HV.o.grew g) enters130 (find1_pred id B W hB hc)
 have HI:=hY hI;obtain⟨a,cap,rfl,hm,-⟩:=hv.openC;clear hv hs hI
 cases hf:Gr.find l id with
 |none =>
  have hi:=findI_none hf;have hr:Gr.nodeOf l id=none:=by unfold Gr.nodeOf;rw[hf];rfl
  rw[hr];have HF:=hY hi;clear hi hf hr;go_enter Tryz.func76,Tryz.ntmps76
  go_wp2_with (go_at_call 109;(refine(HI.o _ gw w.heap.size (by simp[go_sem]) (by simp[go_sem])).mono ?_;rintro e w1 ⟨rfl,R3,n3,rfl⟩;rw[find_idxP,HF.o]))
  exact bodyPost_ret (v:=.tuple #[.agg #[.int .i64 0,.int .i64 0,.slice none 0 0,.slice none 0 0,.int .i64 0,.int .i64 0,.int .i64 0,.int .i64 0,.int .i64 0,.int .i64 0,.int .i64 0,.int .i64 0,.int .i64 0],.bool false]) (by simp[results,Tryz.results76,go_sem]) rfl ⟨rfl,gw⟩
 |some i =>
  obtain⟨hi,hil⟩:=findI_some hf;have hr:Gr.nodeOf l id=some l[i]:=by unfold Gr.nodeOf;rw[hf,Option.bind_some,List.getElem?_eq_getElem hil]
  rw[hr];have HF:=hY hi;have hi0:decide ((i:Int)<0)=false:=decide_eq_false (by omega);obtain⟨a',cap',e,-,hx⟩:=HV.o.openC;cases e;obtain⟨b,off,c,rfl,hb,hn,c0,c1,c2,c3,c4,c5,c6,c7,c8,c9,c10,c11,c12⟩:=hx i hil;obtain⟨hs1,hs2⟩:=HS.o _ (List.getElem_mem hil);have HN:=hY hn;clear hi hf hr hx hn;generalize l[i]=n at *;have HO:=hY fun W (g:Grew w W)=>own_any c n W (HN.o.grew g) hs1 hs2
  obtain⟨cid,kind,af,cf,ap,cp,par,r0,r1,r2,r3,r4,r5,r6,r7,rfl⟩:=HN.o.lit;simp only at c0 c1 c2 c3 c4 c5 c6 c7 c8 c9 c10 c11 c12;go_enter Tryz.func76,Tryz.ntmps76
  go_wp2_with (first
   | (go_at_call 109;refine(HI.o _ gw w.heap.size (by simp[go_sem]) (by simp[go_sem])).mono ?_;rintro e w1 ⟨rfl,R3,n3,rfl⟩;rw[find_idxP,HF.o])
   | (go_at_call 115;refine(HO.o _ gw).mono ?_;rintro e w1 ⟨c9,rfl,hn9,ho9,R4,n4,rfl⟩;obtain⟨cid9,kind9,af9,cf9,ap9,cp9,par9,s0,s1,s2,s3,s4,s5,s6,s7,rfl⟩:=hn9.lit;(have HN9:=hY hn9);(have HO9:=hY ho9);clear hn9 ho9))
  refine bodyPost_ret (v:=.tuple #[.agg #[.int .i64 cid9,.int .i64 kind9,.slice af9 n.frm.length cf9,.slice ap9 n.prog.length cp9,.int .i64 par9,.int .i64 s0,.int .i64 s1,.int .i64 s2,.int .i64 s3,.int .i64 s4,.int .i64 s5,.int .i64 s6,.int .i64 s7],.bool true]) (by simp[results,Tryz.results76,go_sem]) rfl ?_;exact find_made ⟨cid9,kind9,af9,n.frm.length,cf9,ap9,n.prog.length,cp9,par9,s0,s1,s2,s3,s4,s5,s6,s7⟩ HN9.o (OwnsNd.low (OwnsNd.to HO9.o fun b h1 h2=>heap_more_same (by simp[World.size_alloc,World.more_size]) R4 n4 b h1) (by simp[World.size_alloc,World.more_size];omega)) gw
end Go.Proofs.YtipgfjihdglocaaGreat
