import Derived.Test.YtipgfjihdglocaaGreatCw23
import Derived.Test.YtipgfjihdglocaaGreatCw16
set_option linter.unusedSimpArgs false
set_option linter.unusedVariables false
set_option maxRecDepth 100000
set_option maxHeartbeats 64000000
namespace Go.Proofs.YtipgfjihdglocaaGreat
open Go.RowKit Ga
theorem refCheck_any(v:Value)(l:List Val)(w:World)(hv:ValsAt w v l): Calls Tryz.prog 120 #[v] w (RefCheck l w):=by
 obtain⟨a,cap,rfl,hm,-⟩:=hv.open2;have HV:=hY hv;clear hv;cases hf:Co.fitsI l
 ·have hs:Vm.safe l=false:=by unfold Vm.safe Vm.checkC;rw[hf];rfl
  have HS:=hY hs;have HF:=hY hf;clear hs hf;go_enter Tryz.func120,Tryz.ntmps120
  go_wp2_with (go_at_call 125;refine(refFits_any _ l _ (HV.o.grew gw)).mono ?_;rintro e w1 ⟨rfl,R5,n5,rfl⟩;rw[HF.o])
  refine bodyPost_ret (v:=.agg #[.slice none 0 0,.int .i64 0,.int .i64 0,.bool false,.bool false,.bool false]) (by simp[results,Tryz.results120,go_sem]) rfl (RefCheck.mk HS.o gw)
 ·have HF:=hY hf;have hmm:=@run_makeMap Tryz.prog;go_enter Tryz.func120,Tryz.ntmps120;clear hf
  go_wp2_with (go_at_call 125;refine(refFits_any _ l _ (HV.o.grew gw)).mono ?_;rintro e w1 ⟨rfl,R5,n5,rfl⟩;rw[HF.o])
  obtain⟨b3,hb3⟩:∃b3,b3=w.heap.size+1+R5.size:=⟨_,rfl⟩;have h24:=(Co.fits_parts HF.o).1;rw[←hb3];have HB3:=hY hb3;clear hb3
  go_loopw [6] (fun i wr=>∃(j:Nat) (vd:Value),j≤l.length∧i = .int .i64 j∧GoneAt w w.heap.size b3 (b3+1) 0 wr vd (.slice (some ⟨b3+1+1,0,none⟩) 1 1) (List.replicate j (-1)) 0 0 false false [(0,0,0)] []) (fun i _=>l.length-(intOf i).toNat)
  case atStart =>
   have hb3:=HB3.o;refine⟨0,.slice none 0 0,Nat.zero_le _,rfl,gw,by omega,Nat.le_refl _,by omega,by omega,?_,?_,OwnAt.nil _,?_,?_⟩
   ·exact heap_alloc' (heap_alloc' (heap_alloc' (grew_heap gw (heap_new_at w _ _ rfl)) _) _) _
   ·exact heap_alloc' (heap_alloc' (heap_new_at _ _ _ (by simp[World.size_alloc,World.more_size];omega)) _) _
   ·exact OwnAt.fresh (l:=[((0,0,0):Pl)]) rfl rfl rfl (by simp[maxLen]) encP_len (by simp[World.size_alloc,World.more_size];omega) (by omega) rfl
   ·have hs:=SetAt.made (((w.alloc (.cells #[.slice none 0 0,.int .i64 0,.int .i64 0,.bool false,.bool false,.bool false] 191)).more R5 n5).alloc (.cells #[.slice none 0 0,.int .i64 0,.int .i64 0,.bool false,.bool false,.bool true] 191));rw[show(((w.alloc (.cells #[.slice none 0 0,.int .i64 0,.int .i64 0,.bool false,.bool false,.bool false] 191)).more R5 n5).alloc (.cells #[.slice none 0 0,.int .i64 0,.int .i64 0,.bool false,.bool false,.bool true] 191)).heap.size=b3+1 by simp[World.size_alloc,World.more_size];omega] at hs;exact hs.same (((Grew.refl _).alloc _).below.block _ hs.lt)
  case round =>
   obtain⟨j,vd,hj,rfl,hga⟩:=hrel;have hc3:=fun o=>cell_of (o:=o) hga.c3
   have hc30:=hc3 0;simp at hc30;have hp3:=Pre.mk (heap_lt hga.c3);clear hc3;by_cases hlt:j<l.length
   ·have hpd:∃a n c,vd = .slice a n c:=by
     obtain⟨a,c,h,_⟩:=hga.d.rows encD_len;exact⟨a,_,c,h⟩
    obtain⟨ad,nd,cd,rfl⟩:=hpd;have HGA:=hY hga;clear hga
    go_wp2_with (at_builtin;refine wpList_ownK (w0:=w) (v:=Value.slice ad nd cd) rfl (.tmp 28) (.tmp 29) 43 _ _ _ _ [(-1:Int)] rfl Tryz.underlying43 infoInt rfl (by decide) encD_len encD_one rfl (HGA.o.d.grew gw) (HGA.o.g.trans gw) rfl (enc_newU _ _ _ _ _ (by simp[go_sem]) rfl) (by simp;omega) (by decide) (by decide) ?_;intro v9 W9 hA;rw[rep_push] at hA;obtain⟨a9,c9,rfl⟩:=own_slice' hA.2.1;rw[List.length_replicate] at hA ⊢;(have hf9:=frozen_of (o:=0) (HGA.o.at3 gw hA));(have hq9:=cell_of (o:=0) (HGA.o.at3 gw hA));(have hp9:=Pre.mk (heap_lt (HGA.o.at3 gw hA)));simp at hq9;(have HA:=hY hA);clear hA)
    go_roundw
    case rel=>exact⟨j+1,_,by omega,by go_num,HGA.o.pushD ((Grew.refl wr).alloc _) HA.o⟩
    case measure=>first|(simp[intOf];done)|(simp[intOf];omega)
   ·obtain rfl:j=l.length:=by omega
    have HGA:=hY hga;clear hga hc30 hp3 hmm;go_wp2;refine loop9 l w _ a cap b3 _ _ _ ?_ HV.o HF.o (Going.frame rfl ⟨_,_,0,0,false,false,[(0,0,0)],[],HGA.o,Vm.Gone.start l,rfl⟩)
    ·rintro a' w' ⟨u,vd,vt,dep,mx,em,u0,u1,M,rfl,hga,hsf⟩;unfold frame9;have HSF:=hY hsf;have hc:=fun o=>cell_of (o:=o) hga.c3
     have hc0:=hc 0;have hc1:=hc 1;have hc2:=hc 2;have hc3:=hc 3;have hc4:=hc 4;have hc5:=hc 5;simp at hc0 hc1 hc2 hc3 hc4 hc5;have hp3:=Pre.mk (heap_lt hga.c3);have hd:=fun o=>cell_of (o:=o) hga.c2
     have hd0:=hd 0;have hd1:=hd 1;have hd2:=hd 2;have hd3:=hd 3;have hd4:=hd 4;have hd5:=hd 5;simp at hd0 hd1 hd2 hd3 hd4 hd5;have hf:=fun o=>frozen_of (o:=o) hga.c2
     have hf0:=hf 0;have hf1:=hf 1;have hf2:=hf 2;have hf3:=hf 3;have hf4:=hf 4;have hf5:=hf 5;have hp2:=Pre.mk (heap_lt hga.c2);obtain⟨ad,cd,rfl⟩:=own_slice' hga.d;obtain⟨at',ct,rfl⟩:=own_slice' hga.t;have HGA:=hY hga;clear hc hd hf hga hsf;go_wp2;refine bodyPost_ret (v:=.agg #[.slice ad dep.length cd,.int .i64 mx,.int .i64 em,.bool u0,.bool u1,.bool true]) (by simp[results,Tryz.results120,go_sem,hd0,hd1,hd2,hd3,hd4,hd5]) rfl (RefCheck.mk HSF.o ?_);exact(((((HGA.o.g.set (Nat.le_refl _) _).set (Nat.le_refl _) _).set (Nat.le_refl _) _).set (Nat.le_refl _) _).set (Nat.le_refl _) _).set (Nat.le_refl _) _
def frameR(u:Nat→Value): Act:={ tmps:=#[u 0,u 1,u 2,u 3,u 4,u 5,u 6,u 7,u 8,u 9,u 10,u 11,u 12,u 13,u 14,u 15,u 16,u 17,u 18,u 19,u 20,u 21,u 22,u 23,u 24,u 25,u 26,u 27,u 28,u 29,u 30,u 31,u 32,u 33,u 34,u 35,u 36,u 37,u 38,u 39,u 40,u 41,u 42,u 43,u 44,u 45,u 46,u 47,u 48,u 49,u 50,u 51,u 52,u 53,u 54,u 55,u 56,u 57,u 58,u 59,u 60,u 61,u 62,u 63,u 64,u 65,u 66,u 67,u 68,u 69,u 70,u 71,u 72,u 73,u 74,u 75,u 76,u 77,u 78,u 79,u 80,u 81,u 82,u 83,u 84,u 85,u 86,u 87,u 88,u 89,u 90,u 91,u 92,u 93,u 94,u 95,u 96,u 97,u 98,u 99,u 100,u 101,u 102,u 103,u 104,u 105,u 106,u 107,u 108,u 109,u 110,u 111,u 112,u 113,u 114,u 115,u 116,u 117,u 118,u 119,u 120,u 121,u 122,u 123,u 124,u 125,u 126,u 127,u 128,u 129,u 130,u 131,u 132,u 133,u 134,u 135,u 136,u 137,u 138,u 139,u 140,u 141,u 142,u 143,u 144,u 145,u 146,u 147,u 148,u 149,u 150,u 151,u 152,u 153,u 154,u 155,u 156,u 157,u 158,u 159,u 160,u 161,u 162,u 163,u 164,u 165,u 166,u 167,u 168,u 169,u 170,u 171,u 172,u 173,u 174,u 175,u 176,u 177,u 178,u 179,u 180,u 181,u 182,u 183,u 184,u 185,u 186,u 187,u 188,u 189,u 190,u 191,u 192,u 193,u 194,u 195,u 196,u 197,u 198,u 199,u 200,u 201,u 202,u 203,u 204],defers:=[] }
noncomputable def tail11(n:Nat): Code:=(Tryz.f61.body.bind (from9 n)).getD .skip
structure At11 (w:World) (v:Value) (k:Nat) (src:Int) (tx:Nat) (box:Array Value) (a:Act) (W:World):Prop where
 fr:a=frameR (fun i=>a.tmps.getD i undef)
 t0:a.tmps.getD 0 undef=v
 t3:a.tmps.getD 3 undef = .int .i64 src
 t4:a.tmps.getD 4 undef = .int .i64 k
 t5:a.tmps.getD 5 undef = .pointer (some ⟨tx,0,none⟩)
 g:Grew w W
 bx:W.heap[tx]? = some (.cells box 52)
structure Pre11 (w:World) (v:Value) (k:Nat) (src:Int) (a:Act) (W:World):Prop where
 fr:a=frameR (fun i=>a.tmps.getD i undef)
 t0:a.tmps.getD 0 undef=v
 t3:a.tmps.getD 3 undef = .int .i64 src
 t4:a.tmps.getD 4 undef = .int .i64 k
 g:Grew w W
structure Ret11 (w:World) (x:Int) (a:Act) (W:World):Prop where
 t2:a.tmps.getD 2 undef = .int .i64 x
 d:a.defers=[]
 g:Grew w W
def OkHead(l:List Gr.Nd)(k:Nat)(y:Gr.Nd): Prop:=0≤y.id∧y.id≤7∧findI l y.id=k∧0≤y.kind∧y.kind≤2∧1≤y.par∧y.par≤3∧y.frm.length≤3∧(y.id=0↔y.kind=0)
theorem chk_p1(l:List Gr.Nd)(w W:World)(b off cap k:Nat)(src:Int)(c:NdC)(y:Gr.Nd)(Q:Exit→Act→World→Prop)(a0:Act)
  (h0:Pre11 w (.slice (some ⟨b,off,none⟩) l.length cap) k src a0 W) (hv:NodesAt w (.slice (some ⟨b,off,none⟩) l.length cap) l) (hk:k<l.length) (hm:l.length≤9223372036854775807) (hn:NodeIs W c y) (hb:Pre b W)
  (c0:W.cell? ⟨b,off+k*13,none⟩=some (.int .i64 c.id)) (c1:W.cell? ⟨b,off+k*13+1,none⟩=some (.int .i64 c.kind)) (c2:W.cell? ⟨b,off+k*13+2,none⟩=some (.slice c.af c.nf c.cf)) (c3:W.cell? ⟨b,off+k*13+3,none⟩=some (.slice c.ap c.np c.cp)) (c4:W.cell? ⟨b,off+k*13+4,none⟩=some (.int .i64 c.par))
  (c5:W.cell? ⟨b,off+k*13+5,none⟩=some (.int .i64 c.r0)) (c6:W.cell? ⟨b,off+k*13+6,none⟩=some (.int .i64 c.r1)) (c7:W.cell? ⟨b,off+k*13+7,none⟩=some (.int .i64 c.r2)) (c8:W.cell? ⟨b,off+k*13+8,none⟩=some (.int .i64 c.r3)) (c9:W.cell? ⟨b,off+k*13+9,none⟩=some (.int .i64 c.r4)) (c10:W.cell? ⟨b,off+k*13+10,none⟩=some (.int .i64 c.r5)) (c11:W.cell? ⟨b,off+k*13+11,none⟩=some (.int .i64 c.r6)) (c12:W.cell? ⟨b,off+k*13+12,none⟩=some (.int .i64 c.r7))
  (hbad:¬OkHead l k y→∀a' w',Ret11 w 10 a' w'→Q .ret a' w')
  (hnext:OkHead l k y→∀a' w',At11 w (.slice (some ⟨b,off,none⟩) l.length cap) k src W.heap.size (encNd c).toArray a' w'→Code.wp Tryz.prog (tail11 10) Q a' w') :
  Code.wp Tryz.prog (tail11 7) Q a0 W:=by
 have h0':=h0;obtain⟨hfr,h00,h03,h04,hg⟩:=h0;obtain⟨u,hu⟩:∃u:Nat→Value,u=fun i=>a0.tmps.getD i undef:=⟨_,rfl⟩
 rw[←hu] at hfr;have u0:u 0=_:=(congrFun hu 0).trans h00;have u3:u 3=_:=(congrFun hu 3).trans h03;have u4:u 4=_:=(congrFun hu 4).trans h04;clear hu h00 h03 h04 h0';subst hfr
 conv=>arg 2;whnf
 unfold frameR;rw[u0,u3,u4];obtain⟨id,kind,af,cf,ap,cp,par,r0,r1,r2,r3,r4,r5,r6,r7,rfl⟩:=hn.lit;have eid:=hn.id;have ek:=hn.kind;have ep:=hn.par;simp only at eid ek ep c0 c1 c2 c3 c4 c5 c6 c7 c8 c9 c10 c11 c12;have EID:=hY eid;have EK:=hY ek;have EP:=hY ep;have HG:=hY hg;have HBAD:=hY hbad;obtain⟨fx,efx⟩:∃fx,findI l id=fx:=⟨_,rfl⟩;have EFX:=hY efx;have HF:=hY fun W' (g:Grew W W')=>(by have:=refFind08_any _ l id W' ((hv.grew hg).grew g);rw[efx] at this;exact this)
 generalize efl:y.frm.length=fl at *;have EFL:=hY efl;have hnx:((y.id=0↔y.kind=0)→OkHead l k y)→True:=fun _=>trivial
 have HNX:=hY hnext;clear eid ek ep hg hbad hnext efx hn hv hnx efl u0 u3 u4;by_cases hc0:id<0
 ·go_wp2_with (go_at_call 63;refine(HF.o _ gw).mono ?_;rintro e w1 ⟨rfl,hw1⟩;obtain rfl:=hw1.symm)
  exact HBAD.o (fun h=>by have:=h.1;rw[EID.o] at this;omega) _ _ ⟨rfl,rfl,HG.o.trans gw⟩
 ·by_cases hc1:7<id
  ·go_wp2_with (go_at_call 63;refine(HF.o _ gw).mono ?_;rintro e w1 ⟨rfl,hw1⟩;obtain rfl:=hw1.symm)
   exact HBAD.o (fun h=>by have:=h.2.1;rw[EID.o] at this;omega) _ _ ⟨rfl,rfl,HG.o.trans gw⟩
  ·by_cases hc2:fx≠(k:Int)
   ·have hc2b:(fx != (k:Int))=true:=by rw[bne_iff_ne];exact hc2
    have HC2:=hY hc2;clear hc2
    go_wp2_with (go_at_call 63;refine(HF.o _ gw).mono ?_;rintro e w1 ⟨rfl,hw1⟩;obtain rfl:=hw1.symm)
    exact HBAD.o (fun h=>by have:=h.2.2.1;rw[EID.o,EFX.o] at this;exact HC2.o this) _ _ ⟨rfl,rfl,HG.o.trans gw⟩
   ·by_cases hc3:kind<0
    ·have hfx:fx=(k:Int):=by omega
     clear hc2
     go_wp2_with (go_at_call 63;refine(HF.o _ gw).mono ?_;rintro e w1 ⟨rfl,hw1⟩;obtain rfl:=hw1.symm;rw[hfx])
     exact HBAD.o (fun h=>by have:=h.2.2.2.1;rw[EK.o] at this;omega) _ _ ⟨rfl,rfl,HG.o.trans gw⟩
    ·by_cases hc4:2<kind
     ·have hfx:fx=(k:Int):=by omega
      clear hc2
      go_wp2_with (go_at_call 63;refine(HF.o _ gw).mono ?_;rintro e w1 ⟨rfl,hw1⟩;obtain rfl:=hw1.symm;rw[hfx])
      exact HBAD.o (fun h=>by have:=h.2.2.2.2.1;rw[EK.o] at this;omega) _ _ ⟨rfl,rfl,HG.o.trans gw⟩
     ·by_cases hc5:par<1
      ·have hfx:fx=(k:Int):=by omega
       clear hc2
       go_wp2_with (go_at_call 63;refine(HF.o _ gw).mono ?_;rintro e w1 ⟨rfl,hw1⟩;obtain rfl:=hw1.symm;rw[hfx])
       exact HBAD.o (fun h=>by have:=h.2.2.2.2.2.1;rw[EP.o] at this;omega) _ _ ⟨rfl,rfl,HG.o.trans gw⟩
      ·by_cases hc6:3<par
       ·have hfx:fx=(k:Int):=by omega
        clear hc2
        go_wp2_with (go_at_call 63;refine(HF.o _ gw).mono ?_;rintro e w1 ⟨rfl,hw1⟩;obtain rfl:=hw1.symm;rw[hfx])
        exact HBAD.o (fun h=>by have:=h.2.2.2.2.2.2.1;rw[EP.o] at this;omega) _ _ ⟨rfl,rfl,HG.o.trans gw⟩
       ·by_cases hc7:(3:Int)<(fl:Int)
        ·have hfx:fx=(k:Int):=by omega
         clear hc2
         go_wp2_with (go_at_call 63;refine(HF.o _ gw).mono ?_;rintro e w1 ⟨rfl,hw1⟩;obtain rfl:=hw1.symm;rw[hfx])
         exact HBAD.o (fun h=>by have:=h.2.2.2.2.2.2.2.1;rw[EFL.o] at this;omega) _ _ ⟨rfl,rfl,HG.o.trans gw⟩
        ·have HE:Hid ((id=0↔kind=0)→OkHead l k y):=hY fun q=>(by unfold OkHead;rw[EID.o,EK.o,EP.o,EFL.o,EFX.o];exact⟨by omega,by omega,by omega,by omega,by omega,by omega,by omega,by omega,q⟩)
         by_cases i0:id=0
         ·subst i0;by_cases k0:kind=0
          ·subst k0;have hok:=HE.o ⟨fun _=>rfl,fun _=>rfl⟩;have HOK:=hY hok;clear hok;have hfx:fx=(k:Int):=by omega
           clear hc2
           go_upto_if 73 with (first
            | (go_at_call 63;refine(HF.o _ gw).mono ?_;rintro e w1 ⟨rfl,hw1⟩;obtain rfl:=hw1.symm;rw[hfx]))
           iterate 4 go_step
           refine HNX.o HOK.o _ _ ?_;exact⟨rfl,rfl,rfl,rfl,rfl,HG.o.trans gw,heap_new_at _ _ _ rfl⟩
          ·have k0b:(kind==0)=false:=by simpa using k0
           have K0:=hY k0;clear k0;have hfx:fx=(k:Int):=by omega
           clear hc2
           go_wp2_with (go_at_call 63;refine(HF.o _ gw).mono ?_;rintro e w1 ⟨rfl,hw1⟩;obtain rfl:=hw1.symm;rw[hfx])
           exact HBAD.o (fun h=>by have:=h.2.2.2.2.2.2.2.2;rw[EID.o,EK.o] at this;exact K0.out (this.1 rfl)) _ _ ⟨rfl,rfl,HG.o.trans gw⟩
         ·have i0b:(id==0)=false:=by simpa using i0
          by_cases k0:kind=0
          ·subst k0;have I0:=hY i0;clear i0;have hfx:fx=(k:Int):=by omega
           clear hc2
           go_wp2_with (go_at_call 63;refine(HF.o _ gw).mono ?_;rintro e w1 ⟨rfl,hw1⟩;obtain rfl:=hw1.symm;rw[hfx])
           exact HBAD.o (fun h=>by have:=h.2.2.2.2.2.2.2.2;rw[EID.o,EK.o] at this;exact I0.out (this.2 rfl)) _ _ ⟨rfl,rfl,HG.o.trans gw⟩
          ·have k0b:(kind==0)=false:=by simpa using k0
           have I0:=hY i0;have K0:=hY k0;clear i0 k0;have hok:=HE.o ⟨fun q=>absurd q I0.out,fun q=>absurd q K0.out⟩;have HOK:=hY hok;clear hok;have hfx:fx=(k:Int):=by omega
           clear hc2
           go_upto_if 73 with (first
            | (go_at_call 63;refine(HF.o _ gw).mono ?_;rintro e w1 ⟨rfl,hw1⟩;obtain rfl:=hw1.symm;rw[hfx]))
           iterate 4 go_step
           refine HNX.o HOK.o _ _ ?_;exact⟨rfl,rfl,rfl,rfl,rfl,HG.o.trans gw,heap_new_at _ _ _ rfl⟩
end Go.Proofs.YtipgfjihdglocaaGreat
