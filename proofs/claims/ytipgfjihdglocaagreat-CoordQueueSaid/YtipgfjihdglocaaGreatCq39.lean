import Derived.Test.YtipgfjihdglocaaGreatCq28
import Derived.Test.YtipgfjihdglocaaGreatCq37
import Derived.Deep.DeepCutAuto
set_option linter.unusedSimpArgs false
set_option linter.unusedVariables false
set_option maxRecDepth 100000
set_option maxHeartbeats 64000000
namespace Go.Proofs.YtipgfjihdglocaaGreat
open Go.RowKit Ga
theorem infoLnG:(Tryz.prog.info? 122).map (fun i=>(i.zero,i.size,i.bytes))=some (some (.agg #[.int .i64 0,.int .i64 0,.int .i64 0,.int .i64 0,.int .i64 0]),5,40):=by kernel_rfl
theorem infoIntG:(Tryz.prog.info? 3).map (fun i=>(i.zero,i.size,i.bytes))=some (some (.int .i64 0),1,8):=by kernel_rfl
def GathPost(w:World)(ep:Int)(os:List Int)(xs:List Gr.Ln)(es:List Tab.En)(e:Ending)(w':World): Prop:=∃(ao:Option Addr) (co:Nat) (ax:Option Addr) (cx:Nat) (tv:Value) (code:Int),
 e = .returned (.tuple #[.agg #[.int .i64 ep,.int .i64 0,.slice ao os.length co,.slice none 0 0,.slice none 0 0,.slice ax xs.length cx,.slice none 0 0],tv,.int .i64 code]) ∧
 OwnAt w.heap.size 3 1 encN w' (.slice ao os.length co) os∧OwnAt w.heap.size 122 5 encLn w' (.slice ax xs.length cx) xs∧Grew w w' ∧
 ((newOk es=true∧code=0∧∃t b,tv = .pointer (some ⟨t,0,none⟩)∧TableAt w' t b es.length (Tab.newT es)∧w.heap.size≤t∧w.heap.size≤b)∨(newOk es=false∧code=1∧tv = .pointer none))
theorem gather_who{W:World}{x b n:Nat}{g:List Gr.Nd}{ep:Int}{m:List (Who×AkC)}(h:GatherAt W x b n g ep m): ∀t∈tasksOf g,okWho t:=fun t ht=>by
 obtain⟨y,hy,h1,h2,h3⟩:=tasksOf_mem.1 ht;have h4:=h.right.r7 y hy;have h5:=gather_par h y hy;unfold okWho;omega
theorem flat_bound{α β:Type}{q:α→List β}{n:Nat}: ∀{l:List α},(∀x∈l,(q x).length≤n)→(l.flatMap q).length≤l.length*n
 | [],_=>by simp
 |x::l,h=>by
  have h1:=flat_bound (l:=l) fun y hy=>h y (List.mem_cons_of_mem _ hy)
  have h2:=h x (List.mem_cons_self ..);rw[List.flatMap_cons,List.length_append,List.length_cons,Nat.add_one_mul];omega
theorem flat_snoc{α β:Type}{q:α→List β}(l:List α)(x:α): (l++[x]).flatMap q=l.flatMap q++q x:=by
 rw[List.flatMap_append,List.flatMap_cons,List.flatMap_nil,List.append_nil]
theorem SameBut.refl(r:Nat)(W:World): SameBut r W W:=⟨rfl,fun _ _=>rfl⟩
theorem SameBut.setr{r:Nat}{W W':World}(h:SameBut r W W')(o:Nat)(v:Value): SameBut r W (W'.setCell ⟨r,o,none⟩ v) :=
 ⟨by rw[World.size_setCell];exact h.1,fun b hb=>(set_other (fun e=>hb e.symm)).trans (h.2 b hb)⟩
theorem gath_fin{w wa W1 W':World}{B:Nat}{ep:Int}{ao ax:Option Addr}{co cx:Nat}{vE:Value}{os:List Int}{xs:List Gr.Ln}{es:List Tab.En}{vT:Value}{T:List Who}(h:GaSt w wa B ep (.slice ao os.length co) (.slice ax xs.length cx) vE os xs es vT T)(g:Grew wa W1)(hsb:SameBut w.heap.size W1 W'):
  OwnAt w.heap.size 3 1 encN W' (.slice ao os.length co) os∧OwnAt w.heap.size 122 5 encLn W' (.slice ax xs.length cx) xs:=by
 have h1:=h.grew g;refine⟨OwnAt.same h1.o fun b hb=>hsb.2 b fun e=>?_,OwnAt.same h1.x fun b hb=>hsb.2 b fun e=>?_⟩
 ·exact OwnAt.other h1.o h1.z (by decide) (e▸hb)
 ·exact OwnAt.other h1.x h1.z (by decide) (e▸hb)
theorem TableAt.sb{W W':World}{t b n r:Nat}{m:List Tab.En}(h:TableAt W t b n m)(hsb:SameBut r W W')(ht:t≠r)(hb:b≠r): TableAt W' t b n m :=
 ⟨by rw[hsb.2 t ht];exact h.1,h.2.same (hsb.2 b hb)⟩
theorem gathered_any(x b n:Nat)(g:List Gr.Nd)(ep:Int)(m:List (Who×AkC))(f:Who→AkP)(w:World)(h:GatherAt w x b n g ep m)(hf:AllCame w g m f): Calls Tryz.prog 159 #[.pointer (some ⟨x,0,none⟩)] w (GathPost w ep (offsG g f (tasksOf g)) (outG g f (tasksOf g)) (entG g f (tasksOf g))):=by
 have HH:=hY h;unfold AllCame at hf;have HF:=hY hf;have HWH:=hY (gather_who h);obtain⟨v,hx,hv⟩:=h.cells;have hgp:=gather_par h;have htl:=tasksOf_len g fun y hy=>(hgp y hy).2
 have hl8:=h.len;have HALL:=hY fun W (q:Grew w W)=>snapAll_any v g W (hv.grew q) h.small h.len h.so fun y hy=>by have:=hgp y hy;omega
 have HFI:=hY fun id W (q:Grew w W)=>find_any v g id W (hv.grew q) h.small
 have HLK:=hY fun t (ht:okWho t) W (q:Grew w W)=>(h.map.grew q).look t ht Tryz.underlying174 AkC.zero (zeroAck W)
 obtain⟨av,cv,rfl,-,-⟩:=hv.openC;have x0:=cell_of (o:=0) hx;have x1:=cell_of (o:=1) hx;have x2:=cell_of (o:=2) hx;simp at x0 x1 x2;have px:=Pre.mk (heap_lt hx);have HX:=hY hx;clear h hf hx hv hgp;go_enter Tryz.func159,Tryz.ntmps159
 go_wp2_with (go_at_call 129;go_loud (refine(HALL.o _ gw).mono ?_);rintro e w1 ⟨aT,cT,rfl,hT,R1,n1,rfl⟩;(have HT:=hY hT);clear hT)
 obtain⟨T,hTT⟩:∃T,tasksOf g=T:=⟨_,rfl⟩;rw[hTT] at HT HF HWH htl;rw[hTT];have HTT:=hY hTT;clear hTT;have hN:T.length≤24:=by omega
 go_loopg [6,25] T.length (fun gg s6 s25 wr=>∃(k:Nat) (vO vX:Value),k≤T.length∧T.length-k≤gg∧s25 = .int .i64 k∧Hid (GaSt w wr (w.heap.size+1) ep vO vX s6 (offsG g f (T.take k)) (outG g f (T.take k)) (entG g f (T.take k)) (.slice aT T.length cT) T))
 case atStart=>exact⟨0,_,_,by omega,by omega,rfl,hY ⟨gw,by omega,grew_heap gw (heap_new_at w _ _ rfl),grew_heap gw (heap_new_at _ _ _ (by simp[World.size_alloc])),OwnAt.nil _,OwnAt.nil _,OwnAt.nil _,OwnAt.low HT.o (by simp[World.size_alloc];omega)⟩⟩
 case round =>
  obtain⟨k,vO,vX,hk,hgg,rfl,HS⟩:=hrel;rename World=>wa;have hxa:=grew_heap HS.o.g HX.o;by_cases hlt:k<T.length
  ·obtain⟨a',cap',e,-,hx⟩:=RowsAt.open2 (α:=Who) (f:=fun x=>Value.int .i64 x.1) (g:=fun x=>Value.int .i64 x.2) (OwnAt.rows HS.o.t encWho_len);injection e with e1 e2 e3
   obtain⟨bt,offt,ha,hbt,t0,t1⟩:=hx k hlt;obtain rfl:aT=some ⟨bt,offt,none⟩:=e1.trans ha;have hmem:=List.getElem_mem hlt;obtain⟨c,hc,hak⟩:=HF.o _ hmem;have hok:=HWH.o _ hmem;have HTK:=hY (List.take_succ_eq_append_getElem hlt)
   have hlo:(offsG g f (T.take k)).length≤24*100:=by
    refine Nat.le_trans (flat_bound (n:=100) fun y hy=>?_) (Nat.mul_le_mul (by rw[List.length_take];omega) (Nat.le_refl _));split<;>simp
   have hlx:(outG g f (T.take k)).length≤24*100:=by
    refine Nat.le_trans (flat_bound (n:=100) fun y hy=>?_) (Nat.mul_le_mul (by rw[List.length_take];omega) (Nat.le_refl _));obtain⟨-,-,-,-,-,-,q5⟩:=HF.o y (List.mem_of_mem_take hy);split
    ·exact q5
    ·simp
   have hle:(entG g f (T.take k)).length≤24*100:=by
    refine Nat.le_trans (flat_bound (n:=100) fun y hy=>?_) (Nat.mul_le_mul (by rw[List.length_take];omega) (Nat.le_refl _));obtain⟨-,-,-,-,-,q4,-⟩:=HF.o y (List.mem_of_mem_take hy);split
    ·simp
    ·exact q4
   have HAK:=hY hak;have HLK2:=hY fun W q=>HLK.o _ hok W q
   rw[hc] at HLK2;have HFI2:=hY fun W q=>HFI.o T[k].1 W q
   have HSO:Hid (offsG g f (T.take (k+1))=offsG g f (T.take k)++(if kindOf g T[k].1=0 then [(f T[k]).off] else [])):=hY (by rw[HTK.o];exact flat_snoc _ _);have HSX:Hid (outG g f (T.take (k+1))=outG g f (T.take k)++(if kindOf g T[k].1=2 then (f T[k]).lines else [])):=hY (by rw[HTK.o];exact flat_snoc _ _);have HSE:Hid (entG g f (T.take (k+1))=entG g f (T.take k)++(if kindOf g T[k].1=0∨kindOf g T[k].1=2 then [] else (f T[k]).ents)):=hY (by rw[HTK.o];exact flat_snoc _ _);clear hx e1 e2 e3 ha hmem hc hak hok HTK;unfold kindOf at HSO HSX HSE;generalize T[k]=t at *;obtain⟨ti,tk⟩:=t;simp only at t0 t1 HFI2 HSO HSX HSE;generalize Gr.nodeOf g ti=rq at *;generalize f (ti,tk)=A at *;obtain⟨d0,d1,d2,d3,d4,d5,d6,d7,d8,d9⟩:=c;have x0:=cell_of (o:=0) hxa;have x2:=cell_of (o:=2) hxa;simp at x0 x2;have px:=Pre.mk (heap_lt hxa);have hl1:=HLK2.o ((wa.alloc (.cells #[.int .i64 ti,.int .i64 tk] 178)).drew) (HS.o.g.trans gw);have hl2:=fun o=>HLK2.o (((wa.alloc (.cells #[.int .i64 ti,.int .i64 tk] 178)).alloc o).drew) (HS.o.g.trans gw)
   simp only[ackS,whK,akv,Option.getD_some] at hl1 hl2
   go_upto_region 7 with fail
   go_cut [9] (fun s9 wx=>∃B9:Nat,s9 = .pointer (some ⟨B9,0,none⟩)∧wx.heap[B9]? = some (.cells #[.int .i64 d0,.int .i64 d1,.int .i64 d2,.slice d3 d4 d5,.slice d6 d7 d8,.int .i64 d9] 55)∧Grew (wa.alloc (.cells #[.int .i64 ti,.int .i64 tk] 178)) wx)
   case first =>
    go_region_held3 (fun w'=>w'.cell? ⟨x,2,none⟩=some (.map (some b))∧w'.cell? ⟨wa.heap.size,0,none⟩=some (.int .i64 ti)∧w'.cell? ⟨wa.heap.size,1,none⟩=some (.int .i64 tk)) ((refine⟨?_,?_,?_⟩<;>simp[go_sem, *])) (fail)
    all_goals
     go_wp2_with fail
     go_meet
     exact⟨_,rfl,grew_heap gw (heap_new_at _ _ _ (by simp[go_sem])),gw⟩
   case rest =>
    obtain⟨B9,rfl,hb9,hg9⟩:=hcut;generalize wc=W9 at *;clear wc hl1 hl2;have hbw:W9.heap[wa.heap.size]? = some (.cells #[.int .i64 ti,.int .i64 tk] 178):=grew_heap hg9 (heap_new_at _ _ _ rfl);have HG9:=hY (((Grew.refl wa).alloc (.cells #[.int .i64 ti,.int .i64 tk] 178)).trans hg9);have hx9:=grew_heap HG9.o hxa;have HB9:=hY hb9;have HX9:=hY hx9;clear x0 x2 px hg9 t0 t1;have x0:=cell_of (o:=0) hx9;have w0:=cell_of (o:=0) hbw;simp at x0 w0;have px:=Pre.mk (heap_lt hx9);have pw:=Pre.mk (heap_lt hbw)
    go_upto_region 8 with fail
    go_cut [10] (fun s10 wx=>∃B10:Nat,s10 = .pointer (some ⟨B10,0,none⟩)∧wx.cell? ⟨B10,1,none⟩=some (.int .i64 (kindR rq))∧Grew W9 wx)
    case first =>
     go_region_held3 (fun w'=>w'.cell? ⟨x,0,none⟩=some (.slice av g.length cv)∧w'.cell? ⟨wa.heap.size,0,none⟩=some (.int .i64 ti)) ((refine⟨?_,?_⟩<;>simp[go_sem, *])) (first
      | (go_simp;go_at_call 76;refine(HFI2.o _ (HS.o.g.trans (HG9.o.trans gw))).mono ?_;rintro e w2 h9;obtain⟨c9,rfl,hc9,R3,n3,rfl⟩:=find_kind h9;(have HC9:=hY hc9);clear h9 hc9))
     all_goals
      go_wp2_with fail
      go_meet
      refine⟨_,rfl,?_,gw⟩;rw[←HC9.o];exact(cell_of (o:=1) (grew_heap gw (heap_new_at _ _ _ (by simp[go_sem])))).trans rfl
    case rest =>
     obtain⟨B10,rfl,hkd,hg10⟩:=hcut;generalize wc=W10 at *;clear wc;have HSN:=hY (HS.o.grew (HG9.o.trans hg10));have HAN:=hY (HAK.o.grew (HS.o.g.trans (HG9.o.trans hg10)));have hb10:=grew_heap hg10 HB9.o;clear x0 w0 px pw hg10;have m2:=cell_of (o:=2) HSN.o.blk;have m5:=cell_of (o:=5) HSN.o.blk;have a3:=cell_of (o:=3) hb10;have a4:=cell_of (o:=4) hb10;have a5:=cell_of (o:=5) hb10;simp at m2 m5 a3 a4 a5;have pm:=Pre.mk (heap_lt HSN.o.blk);have pa:=Pre.mk (heap_lt hb10);have pk:=Pre.ofCell hkd;generalize kindR rq=kd at *;obtain⟨q1,⟨be,q2⟩,⟨bl,q3⟩,q4,q5⟩:=HAN.o;have HE2:=hY q2;have HL2:=hY q3;have hle2:=(OwnAt.rows q2 encEn_len).len;have hll2:=(OwnAt.rows q3 encLn_len).len;by_cases k0:kd=0
     ·subst k0;have HSO2:=hY (HSO.o.trans (by rw[if_pos rfl]));have HSX2:=hY (HSX.o.trans (by rw[if_neg (by decide),List.append_nil]));have HSE2:=hY (HSE.o.trans (by rw[if_pos (.inl rfl),List.append_nil]));have HQ1:=hY q1;clear q1 q2 q3 hle2 hll2
      go_wp2_with (at_builtin;go_loud (refine wpList_ownK (w0:=w) rfl (.tmp 54) (.tmp 57) 43 _ _ _ _ [d9] rfl Tryz.underlying43 infoIntG rfl (by decide) encN_len encN_one rfl (HSN.o.o.grew gw) (HSN.o.g.trans gw) rfl (int_at _ _ _ _ rfl (by simp[go_sem])) (by simp;omega) (by decide) (by simp) ?_);intro v7 W7 hA;obtain⟨-,n2,n5,f2,f5,p7,a7,c7,rfl⟩:=(HSN.o.grew gw).blkA (HSN.o.o.grew gw) (by decide) encN_len hA;(have HA:=hY hA);clear hA)
      go_roundg (T.length-(k+1))
      case measure=>omega
      case rel =>
       have hA:=HA.o;rw[List.length_append,List.length_singleton] at hA;refine⟨k+1,.slice a7 ((offsG g f (T.take k)).length+1) c7,vX,by omega,by omega,by go_num,hY ?_⟩;rw[HSO2.o,HSX2.o,HSE2.o,←HQ1.o];exact(HSN.o.grew gw).addO hA
     by_cases k2:kd=2
     ·subst k2;have HSO2:=hY (HSO.o.trans (by rw[if_neg (by decide),List.append_nil]));have HSX2:=hY (HSX.o.trans (by rw[if_pos rfl]));have HSE2:=hY (HSE.o.trans (by rw[if_pos (.inr rfl),List.append_nil]));have hlen2:(outG g f (T.take k)).length+A.lines.length≤1000000:=by omega
      clear q1 q2 q3 hle2 hll2
      go_wp2_with (at_builtin;go_loud (refine wpList_ownL (w0:=w) rfl (.tmp 63) (.tmp 65) 45 _ _ rfl Tryz.underlying45 infoLnG rfl (by decide) encLn_len encLn_one rfl (HSN.o.x.grew gw) (HSN.o.g.trans gw) rfl (HL2.o.grew gw) hlen2 (by decide) ?_);intro v7 W7 hA;obtain⟨-,n2,n5,f2,f5,p7,a7,c7,rfl⟩:=(HSN.o.grew gw).blkA (HSN.o.x.grew gw) (by decide) encLn_len hA;(have HA:=hY hA);clear hA)
      go_roundg (T.length-(k+1))
      case measure=>omega
      case rel =>
       have hA:=HA.o;refine⟨k+1,vO,.slice a7 ((outG g f (T.take k)).length+A.lines.length) c7,by omega,by omega,by go_num,hY ?_⟩;rw[HSO2.o,HSX2.o,HSE2.o];rw[List.length_append] at hA;exact(HSN.o.grew gw).addX hA
     have HSO2:=hY (HSO.o.trans (by rw[if_neg k0,List.append_nil]));have HSX2:=hY (HSX.o.trans (by rw[if_neg k2,List.append_nil]));have HSE2:=hY (HSE.o.trans (by rw[if_neg (fun q=>q.elim k0 k2)]));have hlen2:(entG g f (T.take k)).length+A.ents.length≤1000000:=by omega
     have kb0:(kd==0)=false:=by simpa using k0
     have kb2:(kd==2)=false:=by simpa using k2
     clear q1 q2 q3 hle2 hll2 k0 k2
     go_wp2_with (at_builtin;go_loud (refine wpList_ownL (w0:=w) rfl (.tmp 47) (.tmp 49) 44 _ _ rfl Tryz.underlying44 infoEn rfl (by decide) encEn_len encEn_one rfl (HSN.o.e.grew gw) (HSN.o.g.trans gw) rfl (HE2.o.grew gw) hlen2 (by decide) ?_);intro v7 W7 hA;(have HA:=hY hA);clear hA)
     go_roundg (T.length-(k+1))
     case measure=>omega
     case rel =>
      refine⟨k+1,vO,vX,by omega,by omega,by go_num,hY ?_⟩;rw[HSO2.o,HSX2.o,HSE2.o];exact(HSN.o.grew gw).addE HA.o
  ·obtain rfl:k=T.length:=by omega
   have hs:=HS.o;rw[List.take_length] at hs
   have hle:(entG g f T).length≤24*100:=by
    refine Nat.le_trans (flat_bound (n:=100) fun y hy=>?_) (Nat.mul_le_mul hN (Nat.le_refl _));obtain⟨-,-,-,-,-,q4,-⟩:=HF.o y hy;split
    ·simp
    ·exact q4
   have HNW:=hY fun W (q:Grew wa W)=>tabNew_any _ (entG g f T) W ((OwnAt.rows hs.e encEn_len).grew q) (by omega)
   obtain⟨ao,co,rfl⟩:=(OwnAt.rows hs.o encN_len).len;obtain⟨ax,cx,rfl⟩:=(OwnAt.rows hs.x encLn_len).len;obtain⟨ae,ce,rfl⟩:=(OwnAt.rows hs.e encEn_len).len;have HS9:=hY hs;clear hs hle;have m0:=cell_of (o:=0) HS9.o.blk;have m1:=cell_of (o:=1) HS9.o.blk;have m2:=cell_of (o:=2) HS9.o.blk;have m3:=cell_of (o:=3) HS9.o.blk;have m4:=cell_of (o:=4) HS9.o.blk;have m5:=cell_of (o:=5) HS9.o.blk;have m6:=cell_of (o:=6) HS9.o.blk;have z0:=cell_of (o:=0) HS9.o.z;have z1:=cell_of (o:=1) HS9.o.z;have z2:=cell_of (o:=2) HS9.o.z;have z3:=cell_of (o:=3) HS9.o.z;have z4:=cell_of (o:=4) HS9.o.z;have z5:=cell_of (o:=5) HS9.o.z;have z6:=cell_of (o:=6) HS9.o.z;have f0:=frozen_of (o:=0) HS9.o.z;have f1:=frozen_of (o:=1) HS9.o.z;have f2:=frozen_of (o:=2) HS9.o.z;have f3:=frozen_of (o:=3) HS9.o.z;have f4:=frozen_of (o:=4) HS9.o.z;have f5:=frozen_of (o:=5) HS9.o.z;have f6:=frozen_of (o:=6) HS9.o.z;simp at m0 m1 m2 m3 m4 m5 m6 z0 z1 z2 z3 z4 z5 z6;have pm:=Pre.mk (heap_lt HS9.o.blk);have pz:=Pre.mk (heap_lt HS9.o.z);have hwa:=HS9.o.g.below.size
   go_wp2_with fail
   refine(HNW.o _ gw).mono ?_;rintro e w2 hN2;rcases hN2 with ⟨ho,tt,bt,rfl,hT2,h1,h2,R9,n9,rfl⟩|⟨ho,rfl,R9,n9,rfl⟩
   ·have HT2:=hY hT2;have HO:=hY ho;have HT1:=hY h1;have HT3:=hY h2;clear hT2 ho h1 h2
    go_wp2_with fail
    refine bodyPost_ret (v:=.tuple #[.agg #[.int .i64 ep,.int .i64 0,.slice ao (offsG g f T).length co,.slice none 0 0,.slice none 0 0,.slice ax (outG g f T).length cx,.slice none 0 0],.pointer (some ⟨tt,0,none⟩),.int .i64 0]) (by simp[results,Tryz.results159,go_sem,pz,z0,z1,z2,z3,z4,z5,z6]) rfl ?_;rw[HTT.o];refine⟨ao,co,ax,cx,_,_,rfl,?_⟩;rw[←and_assoc];refine⟨gath_fin (W1:=wa.more R9 n9) HS9.o gw ?_,?_,.inl ⟨HO.o,rfl,tt,bt,rfl,TableAt.sb (r:=w.heap.size) HT2.o ?_ (by have:=HT1.o;have:=heap_lt HS9.o.z;omega) (by have:=HT3.o;have:=heap_lt HS9.o.z;omega),by have:=HT1.o;omega,by have:=HT3.o;omega⟩⟩
    ·repeat (first|with_reducible exact SameBut.refl _ _|with_reducible apply SameBut.more|with_reducible apply SameBut.setr)
    ·repeat (first|with_reducible exact HS9.o.g|with_reducible apply Grew.more|with_reducible apply Grew.alloc|refine Grew.set ?_ (Nat.le_refl _) _)
    ·repeat (first|with_reducible exact SameBut.refl _ _|with_reducible apply SameBut.more|with_reducible apply SameBut.setr)
   ·have HO:=hY ho;clear ho
    go_wp2_with fail
    refine bodyPost_ret (v:=.tuple #[.agg #[.int .i64 ep,.int .i64 0,.slice ao (offsG g f T).length co,.slice none 0 0,.slice none 0 0,.slice ax (outG g f T).length cx,.slice none 0 0],.pointer none,.int .i64 1]) (by simp[results,Tryz.results159,go_sem,pz,z0,z1,z2,z3,z4,z5,z6]) rfl ?_;rw[HTT.o];refine⟨ao,co,ax,cx,_,_,rfl,?_⟩;rw[←and_assoc];refine⟨gath_fin (W1:=wa.more R9 n9) HS9.o gw ?_,?_,.inr ⟨HO.o,rfl,rfl⟩⟩
    ·repeat (first|with_reducible exact SameBut.refl _ _|with_reducible apply SameBut.more|with_reducible apply SameBut.setr)
    ·repeat (first|with_reducible exact HS9.o.g|with_reducible apply Grew.more|with_reducible apply Grew.alloc|refine Grew.set ?_ (Nat.le_refl _) _)
end Go.Proofs.YtipgfjihdglocaaGreat
