import Derived.Test.YtipgfjihdglocaaGreatCw13
set_option linter.unusedSimpArgs false
set_option linter.unusedVariables false
set_option maxRecDepth 100000
set_option maxHeartbeats 64000000
namespace Go.Proofs.YtipgfjihdglocaaGreat
open Go.RowKit Ga
theorem tail30(l:List Val)(w wr:World)(a:Option Addr)(cap b3 bx bd cd bt ct k n9:Nat)(d e mx' em':Int)(x y:Int)(u0' u1':Bool)(T' M:List Pl)(dep:List Int)(a0:Act)(J:Nat→Act→World→Prop)(K K2:Act→World→Prop)
  (hJ:∀(n:Nat) (a':Act) (w':World),(∃u,a'=frame9 (.slice a l.length cap) w.heap.size b3 u∧Going l w b3 n (u 5) w')→J n a' w') (hK:∀(a':Act) (w':World),Handed J n9 a' w'→K a' w')
  (hv:ValsAt w (.slice a l.length cap) l) (hf0:Co.fitsI l=true) (hgn:Vm.Gone l M (T'++[((k:Int),d,e)]) dep) (hin:((k:Int),d,e)∉M) (h8:d≤8) (h4:e≤4) (hli:l[k]? = some (x,y)) (hdep:¬(0≤dep.getD k (-1)∧dep.getD k (-1)≠d)) (hme:n9=2*Vm.free M+(T'++[((k:Int),d,e)]).length) (hbx:b3+1<bx) (ht:¬d<takesI x)
  (hga8:GoneAt w w.heap.size b3 (b3+1) (M.length+1) wr (.slice (some ⟨bd,0,none⟩) dep.length cd) (.slice (some ⟨bt,0,none⟩) T'.length ct) (dep.set k d) mx' em' u0' u1' T' (((k:Int),d,e)::M)) (hx8:wr.heap[bx]? = some (.cells #[.int .i64 k,.int .i64 d,.int .i64 e] 233))
  (ha:a0=frame9 (.slice a l.length cap) w.heap.size b3 (fun i=>a0.tmps.getD i undef)) (a5:a0.tmps.getD 5 undef = .slice (some ⟨bt,0,none⟩) T'.length ct) (a7:a0.tmps.getD 7 undef = .pointer (some ⟨bx,0,none⟩)) (a8:a0.tmps.getD 8 undef = .int .i64 x) :
  Code.wp Tryz.prog ((Tryz.f120.body.bind (from9 30)).getD .skip) (Exit.inBlock 3 (Exit.then K (Exit.inBlock 2 (Exit.then K2 (bodyPost Tryz.prog Tryz.f120 (RefCheck l w)))))) a0 wr:=by
 obtain⟨u,hu⟩:∃u:Nat→Value,u=fun i=>a0.tmps.getD i undef:=⟨_,rfl⟩
 rw[←hu] at ha;have u5':u 5=_:=(congrFun hu 5).trans a5;have u7':u 7=_:=(congrFun hu 7).trans a7;have u8':u 8=_:=(congrFun hu 8).trans a8;clear hu a5 a7 a8;subst ha
 conv=>arg 2;whnf
 unfold frame9;rw[u5',u7',u8'];dsimp only;have HV:=hY hv;have HF:=hY hf0;have h24:=(Co.fits_parts hf0).1;have HGN:=hY hgn;have HIN:=hY hin;have HME:=hY hme;have hfr0:Vm.free (((k:Int),d,e)::M)<Vm.free M:=Vm.free_cons h24 hgn.okM ⟨by simp,by simpa using (hgn.at).1,(hgn.at).2.1,h8,(hgn.at).2.2.2.1,h4⟩ hin;have HFR:=hY hfr0;obtain⟨q1,q2,q3,q4,q5⟩:=hgn.at;have hMl:M.length≤1125:=by have:=hgn.fr;omega
 have hTl:T'.length≤1125:=by have:=hgn.tl;rw[List.length_append] at this;simp at this;omega
 have hkl':k<l.length:=(List.getElem?_eq_some_iff.1 hli).1;have hdl:k<dep.length:=by rw[hgn.len];exact hkl'
 have hri:=(Co.fits_parts hf0).2 _ (List.mem_of_getElem? hli);obtain⟨r0,r1,r2,r3,r4,r6⟩:=right_args hri;have r5:=right_jump hri;have HLI:=hY hli;have HCL:=hY hdep
 obtain⟨b,off,rfl,-⟩:=hv.open2.elim fun a' h=>h.elim fun c' h=>by
  obtain⟨e,-,hx⟩:=h;cases e;exact hx k hkl'
 have HT:=hY ht;clear hv hf0 hgn hin hli hdep hme hfr0 hri ht;obtain⟨W0,hW0⟩:∃W0,W0=wr:=⟨_,rfl⟩;subst hW0;have kx0:=cell_of (o:=0) hx8;have kx1:=cell_of (o:=1) hx8;have kx2:=cell_of (o:=2) hx8;simp at kx0 kx1 kx2;have px:=Pre.mk (heap_lt hx8);have HX8:=hY hx8;have HGA8:=hY hga8
 have hbt0:bt<W0.heap.size:=by
  obtain⟨_,c,hc⟩:=hga8.t.block rfl;exact heap_lt hc
 have ht0:0≤takesI x∧takesI x≤2∧0≤leavesI x∧leavesI x≤2:=by
  unfold takesI leavesI Vm.takes Vm.leaves;refine⟨by omega,?_,by omega,?_⟩<;>(repeat' split)<;>omega
 obtain⟨t0,t2,v0,v2⟩:=ht0;clear hx8 hga8
 go_upto_region 30 with fail
 go_cut [9] (fun s9 wx=>∃b9,s9 = .pointer (some ⟨b9,0,none⟩)∧Grew W0 wx∧W0.heap.size≤b9∧wx.heap[b9]? = some (.cells #[.int .i64 ((k:Int)+1),.int .i64 (d-takesI x+leavesI x),.int .i64 e] 233))
 case first =>
  have iw1:=IntWalk.i64_in ((k:Int)+1) (by omega);have iw2:=IntWalk.i64_in (d-takesI x) (by omega);have iw3:=IntWalk.i64_in (d-takesI x+leavesI x) (by omega);have IW:=hY (And.intro iw1 (And.intro iw2 iw3));clear iw1 iw2 iw3
  go_region_held3 (fun w'=>w'.cell? ⟨bx,0,none⟩=some (.int .i64 k)∧w'.cell? ⟨bx,1,none⟩=some (.int .i64 d)∧w'.cell? ⟨bx,2,none⟩=some (.int .i64 e)) (go_keep)
   (first
    | (go_at_call 163;refine(take05_any _ r0 r1 _).mono ?_;rintro e w' ⟨rfl,rfl⟩)
    | (go_at_call 164;refine(leave05_any _ r0 r1 _).mono ?_;rintro e w' ⟨rfl,rfl⟩))
  all_goals
   go_wp2
   go_meet
   exact⟨_,rfl,gw,Nat.le_refl _,(heap_new_at W0 _ _ rfl).trans (by rw[IW.out.1,IW.out.2.1,IW.out.2.2])⟩
 obtain⟨b9,rfl,hg9,hs9,h9⟩:=hcut;generalize hD:d-takesI x+leavesI x=D at *;have HD:=hY hD;clear hD;have k92:=cell_of (o:=2) h9;simp at k92;have p9:=Pre.mk (heap_lt h9);have f92:=frozen_of (o:=2) h9;have HG9:=hY hg9;have H9:=hY h9;clear hg9 h9
 go_upto_if 148 with fail
 go_cut [] (fun wx=>Grew W0 wx∧wx.heap[b9]? = some (.cells #[.int .i64 ((k:Int)+1),.int .i64 D,.int .i64 (e+if x=14 then 1 else 0)] 233))
 case first =>
  by_cases e14:x=14
  ·subst e14;go_wp2
   go_meet
   exact⟨HG9.o.set hs9 _,by rw[set_self H9.o];rfl⟩
  ·have b14:(x==14)=false:=by simpa using e14
   go_wp2
   go_meet
   exact⟨HG9.o,by rw[H9.o];simp[e14]⟩
 obtain⟨hg10,h10⟩:=hcut;generalize hE:(e+if x=14 then 1 else 0)=E at *;have HE:=hY hE;clear hE HG9 H9 k92 p9 f92;have hle:W0.heap.size≤wc.heap.size:=hg10.below.size;have hlt9:b9<wc.heap.size:=heap_lt h10;have ky0:=cell_of (o:=0) h10;have ky1:=cell_of (o:=1) h10;have ky2:=cell_of (o:=2) h10;simp at ky0 ky1 ky2;have py:=Pre.mk (heap_lt h10);have px':Pre bx wc:=Nat.lt_of_lt_of_le px hle;have hx10:=grew_heap hg10 HX8.o;have kz0:=cell_of (o:=0) hx10;simp at kz0;obtain⟨a',c',e',-,hx'⟩:=(HV.o.grew ((HGA8.o.grew hg10).g)).open2;cases e';obtain⟨b',off',e',hb',h0',h1'⟩:=hx' k hkl';cases e';have hl2:=HLI.o;rw[List.getElem?_eq_getElem hkl'] at hl2;have hl3:=Option.some.inj hl2;rw[hl3] at h0' h1';simp only at h0' h1';have HG10:=hY hg10;have H10:=hY h10;clear hx' hl2 hl3 hg10 h10 kx0 kx1 kx2 hx10 h0'
 go_upto_region 34 with fail
 obtain⟨wo,hwo⟩:∃wo,wo=wc:=⟨_,rfl⟩;subst hwo
 go_cut [] (fun wx=>Grew W0 wx∧wx.heap[b9]? = some (.cells #[.int .i64 ((k:Int)+1),.int .i64 D,.int .i64 E] 233)∧wx.heap[wo.heap.size]? = some (.cells #[.int .i64 ((k:Int)+1+y),.int .i64 D,.int .i64 E] 233))
 case first =>
  go_region
  all_goals
   go_wp2
   go_meet
   exact⟨HG10.o.trans gw,grew_heap gw H10.o,heap_new_at wo _ _ rfl⟩
 obtain⟨hg11,hq9,h10'⟩:=hcut;clear HG10 H10 ky0 ky1 ky2 py px' kz0 hb' h1';generalize wo.heap.size=b10 at *;have kf0:=cell_of (o:=0) h10';simp at kf0;have pf:=Pre.mk (heap_lt h10');have ff:=frozen_of (o:=0) h10';have HQ9:=hY hq9;have HF10:=hY h10';have HG11:=hY hg11;clear hq9 h10' hg11
 go_upto_if 169 with fail
 go_cut [] (fun wx=>∃f:Int,(f=if (l.length:Int)<(k:Int)+1+y then (l.length:Int) else (k:Int)+1+y)∧Grew W0 wx∧wx.heap[b9]? = some (.cells #[.int .i64 ((k:Int)+1),.int .i64 D,.int .i64 E] 233)∧wx.heap[b10]? = some (.cells #[.int .i64 f,.int .i64 D,.int .i64 E] 233))
 case first =>
  by_cases hgt:(l.length:Int)<(k:Int)+1+y
  ·rw[decide_eq_true hgt];go_wp2
   go_meet
   exact⟨_,(if_pos (by omega)).symm,HG11.o.set hle _,(set_other (by omega)).trans HQ9.o,by rw[set_self HF10.o];rfl⟩
  ·rw[decide_eq_false hgt];go_wp2
   go_meet
   exact⟨_,(if_neg (by omega)).symm,HG11.o,HQ9.o,HF10.o⟩
 obtain⟨f,hf,hg12,hq9,h10'⟩:=hcut;clear HQ9 HF10 HG11 kf0 pf ff;have hga12:=HGA8.o.grew hg12;have ky0:=cell_of (o:=0) hq9;have ky1:=cell_of (o:=1) hq9;have ky2:=cell_of (o:=2) hq9;simp at ky0 ky1 ky2;have py:=Pre.mk (heap_lt hq9);have kf0:=cell_of (o:=0) h10';have kf1:=cell_of (o:=1) h10';have kf2:=cell_of (o:=2) h10';simp at kf0 kf1 kf2;have pf:=Pre.mk (heap_lt h10');have hgo:=HGN.o.go h24 HIN.o h8 h4 HLI.o HCL.o (by have:=HT.o;show takesI x≤d;omega)
 have hlead:∀a:Nat,Vm.lead k d e (x,y) a=((a:Int),D,E):=fun a=>by
  unfold Vm.lead;rw[←HD.o,←HE.o];rfl
 have HQ9:=hY hq9;have HF10:=hY h10';have HGA12:=hY hga12;have HFF:=hY hf;clear hq9 h10' hg12 hga12 hf r6 px HGA8 HX8;by_cases e0:x=0
 ·subst e0;rw[Vm.next_halt _ _ _ rfl] at hgo;have HGO:Hid (Vm.Gone l (((k:Int),d,e)::M) (T'++[]) (dep.set k d)):=hY hgo;clear hgo hlead;have HRX:Going l w b3 (2*Vm.free (((k:Int),d,e)::M)+(T'++([]:List Pl)).length) (.slice (some ⟨bt,0,none⟩) T'.length ct) wc:=⟨_,dep.set k d,mx',em',u0',u1',T'++([]:List Pl),((k:Int),d,e)::M,by rw[List.append_nil];exact HGA12.o,HGO.o,rfl⟩;go_wp2;refine Handed.intro _ ?_ (hJ _ _ _ (Going.frame rfl HRX));have hme:=HME.o;have hfr:=HFR.o;rw[List.length_append] at hme ⊢;simp at hme ⊢;omega
 have b0:(x != 0)=true:=by simpa using e0
 by_cases e16:x=16
 ·subst e16;have hy:1≤y:=r4 (.inr rfl)
  have hff:((min (k+1+y.toNat) l.length:Nat):Int)=f:=by
   rw[HFF.o];split<;>omega
  rw[Vm.next_jump _ _ _ rfl,List.map_cons,List.map_nil,hlead] at hgo;simp only at hgo;rw[hff] at hgo;have HGO:Hid (Vm.Gone l (((k:Int),d,e)::M) (T'++[((f,D,E):Pl)]) (dep.set k d)):=hY hgo;clear hgo hlead hff e0
  go_wp2_with (at_builtin;refine wpList_ownK (w0:=w) (v:=Value.slice (some ⟨bt,0,none⟩) T'.length ct) rfl (.tmp 189) (.tmp 191) 234 _ _ _ _ [((f,D,E):Pl)] rfl Tryz.underlying234 infoPl rfl (by decide) encP_len encP_one rfl (HGA12.o.t.grew gw) (HGA12.o.g.trans gw) rfl (enc_newU _ _ _ _ _ (by simp[go_sem]) rfl) (by simp;omega) (by decide) (by simp) ?_;intro v9 W9 hA9;obtain⟨a9,c9,rfl⟩:=own_sliceU hA9.2.1;(have HA9:=hY hA9);clear hA9)
  have HRX:Going l w b3 (2*Vm.free (((k:Int),d,e)::M)+(T'++[((f,D,E):Pl)]).length) (.slice a9 (T'.length+1) c9) W9:=⟨_,dep.set k d,mx',em',u0',u1',T'++[((f,D,E):Pl)],((k:Int),d,e)::M,HGA12.o.pushT ((Grew.refl wc).alloc _) HA9.o,HGO.o,rfl⟩;refine Handed.intro _ ?_ (hJ _ _ _ (Going.frame rfl HRX));have hme:=HME.o;have hfr:=HFR.o;rw[List.length_append] at hme ⊢;simp at hme ⊢;omega
 have b16:(x != 16)=true:=by simpa using e16
 by_cases e15:x=15
 ·subst e15;have hy:1≤y:=r4 (.inl rfl)
  have hff:((min (k+1+y.toNat) l.length:Nat):Int)=f:=by
   rw[HFF.o];split<;>omega
  rw[Vm.next_jz _ _ _ rfl,List.map_cons,List.map_cons,List.map_nil,hlead,hlead] at hgo;simp only at hgo;rw[hff,show((k+1:Nat):Int)=(k:Int)+1 by omega,List.append_cons] at hgo;have HGO:Hid (Vm.Gone l (((k:Int),d,e)::M) (T'++[(((k:Int)+1,D,E):Pl)]++[((f,D,E):Pl)]) (dep.set k d)):=hY hgo;clear hgo hlead hff e0 e16;have hnb:bt≠b10:=by omega
  have hbl:b10<wc.heap.size:=heap_lt HF10.o
  go_wp2_with (first
   | (at_builtin;refine wpList_ownK (w0:=w) (v:=Value.slice (some ⟨bt,0,none⟩) T'.length ct) rfl (.tmp 179) (.tmp 181) 234 _ _ _ _ [(((k:Int)+1,D,E):Pl)] rfl Tryz.underlying234 infoPl rfl (by decide) encP_len encP_one rfl (HGA12.o.t.grew gw) (HGA12.o.g.trans gw) rfl (enc_newU _ _ _ _ _ (by simp[go_sem]) rfl) (by simp;omega) (by decide) (by simp) ?_;intro v9 W9 hA9;obtain⟨a9,c9,rfl⟩:=own_sliceU hA9.2.1;(have hga9:=HGA12.o.pushT ((Grew.refl wc).alloc _) hA9);(have hw9:=(hA9.2.2.2.1 b10 (by rw[World.size_alloc];omega) (fun hq=>hnb (Option.some.inj hq))).trans (grew_heap ((Grew.refl wc).alloc _) HF10.o));(have kg0:=cell_of (o:=0) hw9);(have kg1:=cell_of (o:=1) hw9);(have kg2:=cell_of (o:=2) hw9);simp at kg0 kg1 kg2;(have pg:=Pre.mk (heap_lt hw9));(have HGA9:=hY hga9);clear hga9 hw9;(have HA9:=hY hA9);clear hA9)
   | (at_builtin;refine wpList_ownK (w0:=w) (v:=Value.slice a9 (T'.length+1) c9) rfl (.tmp 189) (.tmp 191) 234 _ _ _ _ [((f,D,E):Pl)] rfl Tryz.underlying234 infoPl rfl (by decide) encP_len encP_one rfl (HGA9.o.t.grew gw) (HGA9.o.g.trans gw) rfl (enc_newU _ _ _ _ _ (by simp[go_sem]) rfl) (by simp;omega) (by decide) (by simp) ?_;intro v8 W8 hA8;obtain⟨a8,c8,rfl⟩:=own_slice2 hA8.2.1;(have HA8:=hY hA8);clear hA8)
   )
  have HRX:Going l w b3 (2*Vm.free (((k:Int),d,e)::M)+(T'++[(((k:Int)+1,D,E):Pl)]++[((f,D,E):Pl)]).length) (.slice a8 (T'.length+1+1) c8) W8:=⟨_,dep.set k d,mx',em',u0',u1',T'++[(((k:Int)+1,D,E):Pl)]++[((f,D,E):Pl)],((k:Int),d,e)::M,HGA9.o.pushT ((Grew.refl W9).alloc _) HA8.o,HGO.o,rfl⟩;refine Handed.intro _ ?_ (hJ _ _ _ (Going.frame rfl HRX));have hme:=HME.o;have hfr:=HFR.o;rw[List.length_append] at hme ⊢;simp at hme ⊢;omega
 ·have hne:Vm.next l k (x,y)=[k+1]:=Vm.next_other _ _ _ e0 e15 e16;have b15:(x==15)=false:=by simpa using e15
  have b16':(x==16)=false:=by simpa using e16
  rw[hne,List.map_cons,List.map_nil,hlead,show((k+1:Nat):Int)=(k:Int)+1 by omega] at hgo;have HGO:Hid (Vm.Gone l (((k:Int),d,e)::M) (T'++[(((k:Int)+1,D,E):Pl)]) (dep.set k d)):=hY hgo;clear hgo hlead hne e0 e15 e16
  go_wp2_with (at_builtin;refine wpList_ownK (w0:=w) (v:=Value.slice (some ⟨bt,0,none⟩) T'.length ct) rfl (.tmp 179) (.tmp 181) 234 _ _ _ _ [(((k:Int)+1,D,E):Pl)] rfl Tryz.underlying234 infoPl rfl (by decide) encP_len encP_one rfl (HGA12.o.t.grew gw) (HGA12.o.g.trans gw) rfl (enc_newU _ _ _ _ _ (by simp[go_sem]) rfl) (by simp;omega) (by decide) (by simp) ?_;intro v9 W9 hA9;obtain⟨a9,c9,rfl⟩:=own_sliceU hA9.2.1;(have HA9:=hY hA9);clear hA9)
  have HRX:Going l w b3 (2*Vm.free (((k:Int),d,e)::M)+(T'++[(((k:Int)+1,D,E):Pl)]).length) (.slice a9 (T'.length+1) c9) W9:=⟨_,dep.set k d,mx',em',u0',u1',T'++[(((k:Int)+1,D,E):Pl)],((k:Int),d,e)::M,HGA12.o.pushT ((Grew.refl wc).alloc _) HA9.o,HGO.o,rfl⟩;refine Handed.intro _ ?_ (hJ _ _ _ (Going.frame rfl HRX));have hme:=HME.o;have hfr:=HFR.o;rw[List.length_append] at hme ⊢;simp at hme ⊢;omega
end Go.Proofs.YtipgfjihdglocaaGreat
