import Derived.Test.YtipgfjihdglocaaGreatCw20
set_option linter.unusedSimpArgs false
set_option linter.unusedVariables false
set_option maxRecDepth 100000
set_option maxHeartbeats 64000000
namespace Go.Proofs.YtipgfjihdglocaaGreat
open Go.RowKit Ga
theorem round9(l:List Val)(w wr:World)(a:Option Addr)(cap b3 n9:Nat)(vd vt:Value)(mx em:Int)(u0 u1:Bool)(T M:List Pl)(dep:List Int)(u:Nat→Value)(J:Nat→Act→World→Prop)(K K2:Act→World→Prop)
  (hJ:∀(n:Nat) (a':Act) (w':World),(∃u,a'=frame9 (.slice a l.length cap) w.heap.size b3 u∧Going l w b3 n (u 5) w')→J n a' w') (hK:∀(a':Act) (w':World),Handed J n9 a' w'→K a' w') (hK2:∀(a':Act) (w':World),End9 l w b3 (.slice a l.length cap) a' w'→K2 a' w')
  (hv:ValsAt w (.slice a l.length cap) l) (hf0:Co.fitsI l=true) (hga:GoneAt w w.heap.size b3 (b3+1) M.length wr vd vt dep mx em u0 u1 T M) (hgn:Vm.Gone l M T dep) (hme:n9=2*Vm.free M+T.length) (hu5:u 5=vt) :
  Code.wp Tryz.prog ((Tryz.f120.body.bind fun c=>(allLoops9 c)[1]?).getD .skip) (Exit.then K (Exit.inBlock 2 (Exit.then K2 (bodyPost Tryz.prog Tryz.f120 (RefCheck l w))))) (frame9 (.slice a l.length cap) w.heap.size b3 u) wr:=by
 conv=>arg 2;whnf
 unfold frame9;rw[hu5];have HV:=hY hv;have HF:=hY hf0;have h24:=(Co.fits_parts hf0).1;clear hv hf0;rcases List.eq_nil_or_concat T with rfl|⟨T',x,rfl⟩
 ·have hsf:=Vm.Gone.fin HF.o hgn;obtain⟨at',ct,rfl⟩:=own_slice' hga.t;have HSF:=hY hsf;have HGA:=hY hga;clear hga hgn hsf hme;go_wp2
  first|exact hK2 _ _ ⟨_,_,_,_,_,_,_,_,_,Going.mkFrame rfl,HGA.o,HSF.o⟩|exact⟨_,_,_,_,_,_,_,_,_,Going.mkFrame rfl,HGA.o,HSF.o⟩
 ·rw[List.concat_eq_append] at hga hgn hme
  obtain⟨k,d,e,rfl⟩:∃(k:Nat) (d e:Int),x=((k:Int),d,e):=by
   obtain⟨x1,x2,x3⟩:=x;have:=(hgn.okT _ (List.mem_append_right _ (List.mem_singleton.2 rfl))).1;exact⟨x1.toNat,x2,x3,by simp only[Prod.mk.injEq,and_true];exact(Int.toNat_of_nonneg this).symm⟩
  obtain⟨q1,q2,q3,q4,q5⟩:=hgn.at;have hMl:M.length≤1125:=by have:=hgn.fr;omega
  have hTl:T'.length≤1125:=by have:=hgn.tl;rw[List.length_append] at this;simp at this;omega
  obtain⟨bt,ct,curt,rfl,hbt,hct,hht,k0,k1,k2⟩:=ownP_last hga.t;simp only at k0 k1 k2;have hpt:=Pre.mk (heap_lt hht);have hlook:=fun(W:World) (g:Grew wr W)=>(hga.s.same (g.below.block _ hga.s.lt)).look (W:=W) ((k:Int),d,e) (by unfold small;simp only;omega) (by unfold small;simp only;omega) (by unfold small;simp only;omega)
  unfold plV at hlook;simp only at hlook;have hcut:=hga.cutT (nt':=T'.length) rfl;have HGA:=hY hcut;have HGN:=hY hgn;have HME:=hY hme;clear hga hgn hme hcut hht;by_cases hin:((k:Int),d,e)∈M
  ·rw[decide_eq_true hin] at hlook;have HIN:=hY hin;clear hin;have hl2:=fun o=>hlook (wr.alloc o) ((Grew.refl wr).alloc o)
   clear hlook;have HRX:Going l w b3 (2*Vm.free M+T'.length) (.slice (some ⟨bt,0,none⟩) T'.length ct) (wr.alloc (.cells #[.int .i64 k,.int .i64 d,.int .i64 e] 233)):=⟨_,dep,mx,em,u0,u1,T',M,HGA.o.grew ((Grew.refl wr).alloc _),HGN.o.skip HIN.o,rfl⟩;go_wp2;refine Handed.intro _ ?_ (hJ _ _ _ (Going.frame rfl HRX));have hme:=HME.o;rw[List.length_append] at hme;simp at hme;omega
  ·rw[decide_eq_false hin] at hlook;have HIN:=hY hin;clear hin;have hl2:=fun o=>hlook (wr.alloc o) ((Grew.refl wr).alloc o)
   clear hlook;have hbm:b3+1<wr.heap.size:=HGA.o.s.lt
   go_upto_if 55 with (refine wpList_setAdd (w0:=w) rfl (.tmp 49) (.tmp 50) (.const (.bool true)) rfl (HGA.o.g.trans ((Grew.refl wr).alloc _)) HGA.o.hm rfl (HGA.o.grew ((Grew.refl wr).alloc _)).s (by unfold maxLen;omega) ((k:Int),d,e) (by unfold small;simp only;omega) (by unfold small;simp only;omega) (by unfold small;simp only;omega) rfl rfl ?_;intro W9 hs9 hg9 hb9 hz9;(have hx9:W9.heap[wr.heap.size]? = some (.cells #[.int .i64 k,.int .i64 d,.int .i64 e] 233):=(hb9 _ (by rw[World.size_alloc];omega) (by omega)).trans (heap_new_at wr _ _ rfl));(have hga9:=(HGA.o.grew ((Grew.refl wr).alloc _)).addM hs9 hg9 hb9);(have HX9:=hY hx9);(have HGA9:=hY hga9);(have k39:=cell_of (o:=1) hga9.c3);(have k30:=cell_of (o:=2) hga9.c3);simp at k39 k30;(have kx0:=cell_of (o:=0) hx9);(have kx1:=cell_of (o:=1) hx9);(have kx2:=cell_of (o:=2) hx9);simp at kx0 kx1 kx2;(have px9:=Pre.mk (heap_lt hx9));(have p39:=Pre.mk (heap_lt hga9.c3));(have f39:=frozen_of (o:=1) hga9.c3);clear hs9 hb9 hx9 hga9)
   go_cut [] (fun wx=>∃mx',GoneAt w w.heap.size b3 (b3+1) (M.length+1) wx vd (.slice (some ⟨bt,0,none⟩) T'.length ct) dep mx' em u0 u1 T' (((k:Int),d,e)::M)∧wx.heap[wr.heap.size]? = some (.cells #[.int .i64 k,.int .i64 d,.int .i64 e] 233))
   case first =>
    by_cases hmx:mx<d
    ·rw[decide_eq_true hmx];clear hmx;go_wp2
     go_meet
     exact⟨d,HGA9.o.setK 1 (.int .i64 d) d em u0 u1 rfl,(set_other (by omega)).trans HX9.o⟩
    ·rw[decide_eq_false hmx];go_wp2
     go_meet
     exact⟨mx,HGA9.o,HX9.o⟩
   obtain⟨mx',hga2,hx2⟩:=hcut;clear HGA9 HX9 k39 k30 kx0 kx1 kx2 px9 p39 f39 hg9 hz9 hl2 k0 k1 k2 hpt HGA;generalize wr.heap.size=bx at *;have kx2:=cell_of (o:=2) hx2;have k32:=cell_of (o:=2) hga2.c3;simp at kx2 k32;have px:=Pre.mk (heap_lt hx2);have p3:=Pre.mk (heap_lt hga2.c3);have f32:=frozen_of (o:=2) hga2.c3;have HX2:=hY hx2;have HGA2:=hY hga2;clear hx2 hga2
   go_upto_if 63 with fail
   go_cut [] (fun wx=>∃em',GoneAt w w.heap.size b3 (b3+1) (M.length+1) wx vd (.slice (some ⟨bt,0,none⟩) T'.length ct) dep mx' em' u0 u1 T' (((k:Int),d,e)::M)∧wx.heap[bx]? = some (.cells #[.int .i64 k,.int .i64 d,.int .i64 e] 233))
   case first =>
    by_cases hmx:em<e
    ·rw[decide_eq_true hmx];clear hmx;go_wp2
     go_meet
     exact⟨e,HGA2.o.setK 2 (.int .i64 e) mx' e u0 u1 rfl,(set_other (by omega)).trans HX2.o⟩
    ·rw[decide_eq_false hmx];go_wp2
     go_meet
     exact⟨em,HGA2.o,HX2.o⟩
   obtain⟨em',hga3,hx3⟩:=hcut;clear HX2 HGA2 kx2 k32 px p3 f32;have kx0:=cell_of (o:=0) hx3;have kx1:=cell_of (o:=1) hx3;have kx2:=cell_of (o:=2) hx3;simp at kx0 kx1 kx2;have px:=Pre.mk (heap_lt hx3);have HX3:=hY hx3;have HGA3:=hY hga3;by_cases h84:8<d∨4<e
   ·have hun:=HGN.o.deep h84;have HUN:=hY hun;clear hun;have hp2:=Pre.mk (heap_lt hga3.c2);have hd0:=cell_of (o:=0) hga3.c2;have hf0:=frozen_of (o:=0) hga3.c2;have hd1:=cell_of (o:=1) hga3.c2;have hf1:=frozen_of (o:=1) hga3.c2;have hd2:=cell_of (o:=2) hga3.c2;have hf2:=frozen_of (o:=2) hga3.c2;have hd3:=cell_of (o:=3) hga3.c2;have hf3:=frozen_of (o:=3) hga3.c2;have hd4:=cell_of (o:=4) hga3.c2;have hf4:=frozen_of (o:=4) hga3.c2;have hd5:=cell_of (o:=5) hga3.c2;have hf5:=frozen_of (o:=5) hga3.c2;simp at hd0 hd1 hd2 hd3 hd4 hd5;clear hga3 hx3;by_cases h8:8<d
    ·go_wp2;refine bodyPost_ret (v:=.agg #[.slice none 0 0,.int .i64 0,.int .i64 0,.bool false,.bool false,.bool false]) (by simp[results,Tryz.results120,go_sem,hd0,hd1,hd2,hd3,hd4,hd5]) rfl (RefCheck.mk HUN.o ?_);exact(((((HGA3.o.g.set (Nat.le_refl _) _).set (Nat.le_refl _) _).set (Nat.le_refl _) _).set (Nat.le_refl _) _).set (Nat.le_refl _) _).set (Nat.le_refl _) _
    ·have h4:4<e:=by omega
     go_wp2;refine bodyPost_ret (v:=.agg #[.slice none 0 0,.int .i64 0,.int .i64 0,.bool false,.bool false,.bool false]) (by simp[results,Tryz.results120,go_sem,hd0,hd1,hd2,hd3,hd4,hd5]) rfl (RefCheck.mk HUN.o ?_);exact(((((HGA3.o.g.set (Nat.le_refl _) _).set (Nat.le_refl _) _).set (Nat.le_refl _) _).set (Nat.le_refl _) _).set (Nat.le_refl _) _).set (Nat.le_refl _) _
   obtain⟨h8,h4⟩:d≤8∧e≤4:=by omega
   clear h84;have hfree:Vm.free (((k:Int),d,e)::M)<Vm.free M:=Vm.free_cons h24 HGN.o.okM ⟨by simp,by simpa using q1,q2,h8,q4,h4⟩ HIN.o;have HFR:=hY hfree;clear hfree;by_cases hkl:l.length≤k
   ·clear hga3 hx3;have HRX:Going l w b3 (2*Vm.free (((k:Int),d,e)::M)+T'.length) (.slice (some ⟨bt,0,none⟩) T'.length ct) wc:=⟨_,dep,mx',em',u0,u1,T',((k:Int),d,e)::M,HGA3.o,HGN.o.last h24 HIN.o h8 h4 hkl,rfl⟩;go_wp2;refine Handed.intro _ ?_ (hJ _ _ _ (Going.frame rfl HRX));have hme:=HME.o;have hfr:=HFR.o;rw[List.length_append] at hme;simp at hme;omega
   have hkl':k<l.length:=by omega
   clear hkl;obtain⟨bd,cd,curd,rfl,hbd,hhd,kd⟩:=ownD_at hga3.d (k:=k) (by rw[HGN.o.len];exact hkl')
   obtain⟨b,off,rfl,hb,h0,h1⟩:=((HV.o.grew hga3.g).open2).elim fun a' h=>h.elim fun c' h=>by
    obtain⟨e,-,hx⟩:=h;cases e;exact hx k hkl'
   have hri:=(Co.fits_parts HF.o).2 _ (List.getElem_mem hkl');have hli:l[k]? = some l[k]:=List.getElem?_eq_getElem hkl';generalize l[k]=xy at *;obtain⟨x,y⟩:=xy;simp only at h0 h1;obtain⟨r0,r1,r2,r3,r4,r6⟩:=right_args hri;have r5:=right_jump hri;have HLI:=hY hli;clear hri hli;have hdl:k<dep.length:=by rw[HGN.o.len];exact hkl'
   have k30:=cell_of (o:=0) hga3.c3;simp at k30;have p3:=Pre.mk (heap_lt hga3.c3);have pd:=Pre.mk (heap_lt hhd);generalize hdk:dep.getD k (-1)=dk at *;have HDK:=hY hdk;clear hdk hga3 hx3 hhd
   go_upto_region 22 with fail
   go_cut [98] (fun s98 wx=>s98 = .bool (decide (0≤dk)&&decide (dk≠d))∧Grew wc wx)
   case first =>
    by_cases hz:0≤dk
    ·by_cases hz2:dk=d
     ·skip
      subst hz2;have hbn:(dk != dk)=false:=by simp
      go_quiet (fail)
      go_wp2
      go_meet
      exact⟨by simp,gw⟩
     ·skip
      have hbn:(dk != d)=true:=by simpa using hz2
      go_quiet (fail)
      go_wp2
      go_meet
      exact⟨by simp[hz,hz2],gw⟩
    ·skip
     go_region
     go_wp2
     go_meet
     exact⟨by simp;omega,gw⟩
   obtain⟨rfl,hg4⟩:=hcut;have hga4:=HGA3.o.grew hg4;have hx4:=grew_heap hg4 HX3.o;have HGA4:=hY hga4;have HX4:=hY hx4;clear HGA3 HX3 kx0 kx1 kx2 px k30 p3 pd kd hg4;by_cases hcl:0≤dk∧dk≠d
   ·have hb2:(decide (0≤dk)&&decide (dk≠d))=true:=by simp[hcl.1,hcl.2]
    rw[hb2];have hun:=HGN.o.clash hkl' (by rw[HDK.o];exact hcl.1) (by rw[HDK.o];exact hcl.2);have HUN:=hY hun;clear hun;have hp2:=Pre.mk (heap_lt hga4.c2);have hd0:=cell_of (o:=0) hga4.c2;have hf0:=frozen_of (o:=0) hga4.c2;have hd1:=cell_of (o:=1) hga4.c2;have hf1:=frozen_of (o:=1) hga4.c2;have hd2:=cell_of (o:=2) hga4.c2;have hf2:=frozen_of (o:=2) hga4.c2;have hd3:=cell_of (o:=3) hga4.c2;have hf3:=frozen_of (o:=3) hga4.c2;have hd4:=cell_of (o:=4) hga4.c2;have hf4:=frozen_of (o:=4) hga4.c2;have hd5:=cell_of (o:=5) hga4.c2;have hf5:=frozen_of (o:=5) hga4.c2;simp at hd0 hd1 hd2 hd3 hd4 hd5;clear hga4 hx4 hb2;go_wp2;refine bodyPost_ret (v:=.agg #[.slice none 0 0,.int .i64 0,.int .i64 0,.bool false,.bool false,.bool false]) (by simp[results,Tryz.results120,go_sem,hd0,hd1,hd2,hd3,hd4,hd5]) rfl (RefCheck.mk HUN.o ?_);exact(((((HGA4.o.g.set (Nat.le_refl _) _).set (Nat.le_refl _) _).set (Nat.le_refl _) _).set (Nat.le_refl _) _).set (Nat.le_refl _) _).set (Nat.le_refl _) _
   have hb2:(decide (0≤dk)&&decide (dk≠d))=false:=by
    simp only[Bool.and_eq_false_iff,decide_eq_false_iff_not];omega
   rw[hb2];have HCL:=hY hcl;clear hb2 hcl;have TL:=tail24 l w wc (some ⟨b,off,none⟩) cap b3 bx bd cd bt ct k n9 d e mx' em' x y u0 u1 T' M dep;go_step;go_step;go_step;go_step
   first
    | ((refine TL _ J K K2 hJ hK HV.o HF.o HGN.o HIN.o h8 h4 HLI.o (by rw[HDK.o];exact HCL.o) HME.o hbm HGA4.o HX4.o ?_ ?_ ?_)<;>rfl)
    | (go_step;(refine TL _ J K K2 hJ hK HV.o HF.o HGN.o HIN.o h8 h4 HLI.o (by rw[HDK.o];exact HCL.o) HME.o hbm HGA4.o HX4.o ?_ ?_ ?_)<;>rfl)
    | (go_step;go_step;(refine TL _ J K K2 hJ hK HV.o HF.o HGN.o HIN.o h8 h4 HLI.o (by rw[HDK.o];exact HCL.o) HME.o hbm HGA4.o HX4.o ?_ ?_ ?_)<;>rfl)
theorem loop9(l:List Val)(w wr:World)(a:Option Addr)(cap b3 n:Nat)(a0:Act)(K2:Act→World→Prop)(hK2:∀(a':Act) (w':World),End9 l w b3 (.slice a l.length cap) a' w'→K2 a' w')
  (hv:ValsAt w (.slice a l.length cap) l) (hf0:Co.fitsI l=true) (h0:∃u,a0=frame9 (.slice a l.length cap) w.heap.size b3 u∧Going l w b3 n (u 5) wr) :
  Code.wp Tryz.prog (.loop ((Tryz.f120.body.bind fun c=>(allLoops9 c)[1]?).getD .skip)) (Exit.inBlock 2 (Exit.then K2 (bodyPost Tryz.prog Tryz.f120 (RefCheck l w)))) a0 wr:=by
 refine wp_loop_ghost_k (fun n a' w'=>∃u,a'=frame9 (.slice a l.length cap) w.heap.size b3 u∧Going l w b3 n (u 5) w') n h0 ?_;rintro n9 a9 wr ⟨u,rfl,vd,dep,mx,em,u0,u1,T,M,hga,hgn,hme⟩ J K hJ hK;exact round9 l w wr a cap b3 n9 vd _ mx em u0 u1 T M dep u J K K2 hJ hK hK2 hv hf0 hga hgn hme rfl
end Go.Proofs.YtipgfjihdglocaaGreat
