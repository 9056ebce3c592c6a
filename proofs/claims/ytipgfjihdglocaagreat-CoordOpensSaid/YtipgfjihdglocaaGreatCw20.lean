import Derived.Test.YtipgfjihdglocaaGreatCw17
import Derived.Test.YtipgfjihdglocaaGreatCw9
import Derived.Test.YtipgfjihdglocaaGreatCw12
import Derived.Test.YtipgfjihdglocaaGreatCw5
import Derived.Test.YtipgfjihdglocaaGreatCw16
import Derived.Test.YtipgfjihdglocaaGreatCw13
import Derived.Deep.QuietTactic
import Derived.BigQuiet
import Derived.Deep.RegionHeld3
import Derived.Deep.DeepCutAuto
import Derived.Deep.CutBlock
set_option linter.unusedSimpArgs false
set_option linter.unusedVariables false
set_option maxRecDepth 100000
set_option maxHeartbeats 64000000
namespace Go.Proofs.YtipgfjihdglocaaGreat
open Go.RowKit Ga
theorem tail24(l:List Val)(w wr:World)(a:Option Addr)(cap b3 bx bd cd bt ct k n9:Nat)(d e mx' em':Int)(x y:Int)(u0 u1:Bool)(T' M:List Pl)(dep:List Int)(a0:Act)(J:Nat→Act→World→Prop)(K K2:Act→World→Prop)
  (hJ:∀(n:Nat) (a':Act) (w':World),(∃u,a'=frame9 (.slice a l.length cap) w.heap.size b3 u∧Going l w b3 n (u 5) w')→J n a' w') (hK:∀(a':Act) (w':World),Handed J n9 a' w'→K a' w')
  (hv:ValsAt w (.slice a l.length cap) l) (hf0:Co.fitsI l=true) (hgn:Vm.Gone l M (T'++[((k:Int),d,e)]) dep) (hin:((k:Int),d,e)∉M) (h8:d≤8) (h4:e≤4) (hli:l[k]? = some (x,y)) (hdep:¬(0≤dep.getD k (-1)∧dep.getD k (-1)≠d)) (hme:n9=2*Vm.free M+(T'++[((k:Int),d,e)]).length) (hbx:b3+1<bx)
  (hga4:GoneAt w w.heap.size b3 (b3+1) (M.length+1) wr (.slice (some ⟨bd,0,none⟩) dep.length cd) (.slice (some ⟨bt,0,none⟩) T'.length ct) dep mx' em' u0 u1 T' (((k:Int),d,e)::M)) (hx4:wr.heap[bx]? = some (.cells #[.int .i64 k,.int .i64 d,.int .i64 e] 233))
  (ha:a0=frame9 (.slice a l.length cap) w.heap.size b3 (fun i=>a0.tmps.getD i undef)) (a5:a0.tmps.getD 5 undef = .slice (some ⟨bt,0,none⟩) T'.length ct) (a7:a0.tmps.getD 7 undef = .pointer (some ⟨bx,0,none⟩)) :
  Code.wp Tryz.prog ((Tryz.f120.body.bind (from9 24)).getD .skip) (Exit.inBlock 3 (Exit.then K (Exit.inBlock 2 (Exit.then K2 (bodyPost Tryz.prog Tryz.f120 (RefCheck l w)))))) a0 wr:=by
 obtain⟨u,hu⟩:∃u:Nat→Value,u=fun i=>a0.tmps.getD i undef:=⟨_,rfl⟩
 rw[←hu] at ha;have u5':u 5=_:=(congrFun hu 5).trans a5;have u7':u 7=_:=(congrFun hu 7).trans a7;clear hu a5 a7;subst ha
 conv=>arg 2;whnf
 unfold frame9;rw[u5',u7'];dsimp only;have HV:=hY hv;have HF:=hY hf0;have h24:=(Co.fits_parts hf0).1;have HGN:=hY hgn;have HIN:=hY hin;have HME:=hY hme;have hfr0:Vm.free (((k:Int),d,e)::M)<Vm.free M:=Vm.free_cons h24 hgn.okM ⟨by simp,by simpa using (hgn.at).1,(hgn.at).2.1,h8,(hgn.at).2.2.2.1,h4⟩ hin;have HFR:=hY hfr0;obtain⟨q1,q2,q3,q4,q5⟩:=hgn.at;have hMl:M.length≤1125:=by have:=hgn.fr;omega
 have hTl:T'.length≤1125:=by have:=hgn.tl;rw[List.length_append] at this;simp at this;omega
 have hkl':k<l.length:=(List.getElem?_eq_some_iff.1 hli).1;have hdl:k<dep.length:=by rw[hgn.len];exact hkl'
 have hri:=(Co.fits_parts hf0).2 _ (List.mem_of_getElem? hli);obtain⟨r0,r1,r2,r3,r4,r6⟩:=right_args hri;have r5:=right_jump hri;have HLI:=hY hli;have HCL:=hY hdep
 obtain⟨b,off,rfl,-⟩:=hv.open2.elim fun a' h=>h.elim fun c' h=>by
  obtain⟨e,-,hx⟩:=h;cases e;exact hx k hkl'
 clear hv hf0 hgn hin hli hdep hme hfr0 hri;have HJ:=hY hJ;have HKK:=hY hK;have HGA4:=hY hga4;have HX4:=hY hx4;obtain⟨bd',cd',curd',hv',hbd',hhd,kd⟩:=ownD_at hga4.d (k:=k) hdl;cases hv';have kx0:=cell_of (o:=0) hx4;have kx1:=cell_of (o:=1) hx4;simp at kx0 kx1;have px:=Pre.mk (heap_lt hx4);have k30:=cell_of (o:=0) hga4.c3;simp at k30;have p3:=Pre.mk (heap_lt hga4.c3);have pd:=Pre.mk (heap_lt hhd);have fd:=frozen_of (o:=k) hhd
 have hne:bd≠bx:=by
  rintro rfl;rw[hhd] at hx4;cases hx4
 clear hga4 hx4 hhd hbd'
 go_upto_region 24 with fail
 go_cut [] (fun wx=>GoneAt w w.heap.size b3 (b3+1) (M.length+1) wx (.slice (some ⟨bd,0,none⟩) dep.length cd) (.slice (some ⟨bt,0,none⟩) T'.length ct) (dep.set k d) mx' em' u0 u1 T' (((k:Int),d,e)::M)∧wx.heap[bx]? = some (.cells #[.int .i64 k,.int .i64 d,.int .i64 e] 233))
 case first =>
  go_wp2
  go_meet
  exact⟨HGA4.o.setDep hdl d,(set_other hne).trans HX4.o⟩
 obtain⟨hga5,hx5⟩:=hcut;clear HGA4 HX4 kx0 kx1 px k30 p3 pd fd kd hne;have kx0:=cell_of (o:=0) hx5;have kx1:=cell_of (o:=1) hx5;simp at kx0 kx1;have px:=Pre.mk (heap_lt hx5);obtain⟨a',c',e',-,hx'⟩:=(HV.o.grew hga5.g).open2;cases e';obtain⟨b',off',e',hb',h0',h1'⟩:=hx' k hkl';cases e';have hl2:=HLI.o;rw[List.getElem?_eq_getElem hkl'] at hl2;have hl3:=Option.some.inj hl2;rw[hl3] at h0' h1';simp only at h0' h1';have HX5:=hY hx5;have HGA5:=hY hga5;clear hx' hl2 hl3 hga5 hx5
 go_upto_region 26 with fail
 go_cut [117] (fun s wx=>s = .bool (decide (d<takesI x))∧Grew wc wx)
 case first =>
  go_quiet (first|(go_at_call 163;refine Calls.quiet_of_same ((take05_any _ r0 r1 _).mono fun e w' h=>⟨h.1,h.2.symm⟩)))
  go_wp2
  go_meet
  exact⟨rfl,gw⟩
 obtain⟨rfl,hg6⟩:=hcut;have hga6:=HGA5.o.grew hg6;have hx6:=grew_heap hg6 HX5.o;have HGA6:=hY hga6;have HX6:=hY hx6;clear HGA5 HX5 kx0 kx1 px hg6 hb' h0';by_cases ht:d<takesI x
 ·rw[decide_eq_true ht];have hun:=HGN.o.short HLI.o ht;have HUN:=hY hun;clear hun ht;have hp2:=Pre.mk (heap_lt hga6.c2);have hd0:=cell_of (o:=0) hga6.c2;have hf0:=frozen_of (o:=0) hga6.c2;have hd1:=cell_of (o:=1) hga6.c2;have hf1:=frozen_of (o:=1) hga6.c2;have hd2:=cell_of (o:=2) hga6.c2;have hf2:=frozen_of (o:=2) hga6.c2;have hd3:=cell_of (o:=3) hga6.c2;have hf3:=frozen_of (o:=3) hga6.c2;have hd4:=cell_of (o:=4) hga6.c2;have hf4:=frozen_of (o:=4) hga6.c2;have hd5:=cell_of (o:=5) hga6.c2;have hf5:=frozen_of (o:=5) hga6.c2;simp at hd0 hd1 hd2 hd3 hd4 hd5;clear hga6 hx6;go_wp2;refine bodyPost_ret (v:=.agg #[.slice none 0 0,.int .i64 0,.int .i64 0,.bool false,.bool false,.bool false]) (by simp[results,Tryz.results120,go_sem,hd0,hd1,hd2,hd3,hd4,hd5]) rfl (RefCheck.mk HUN.o ?_);exact(((((HGA6.o.g.set (Nat.le_refl _) _).set (Nat.le_refl _) _).set (Nat.le_refl _) _).set (Nat.le_refl _) _).set (Nat.le_refl _) _).set (Nat.le_refl _) _
 rw[decide_eq_false ht];have HT:=hY ht;clear ht;obtain⟨a',c',e',-,hx'⟩:=(HV.o.grew hga6.g).open2;cases e';obtain⟨b',off',e',hb',h0',h1'⟩:=hx' k hkl';cases e';have hl2:=HLI.o;rw[List.getElem?_eq_getElem hkl'] at hl2;have hl3:=Option.some.inj hl2;rw[hl3] at h0' h1';simp only at h0' h1';have kx0:=cell_of (o:=0) hx6;simp at kx0;have px:=Pre.mk (heap_lt hx6);have p3:=Pre.mk (heap_lt hga6.c3);have k33:=cell_of (o:=3) hga6.c3;have k34:=cell_of (o:=4) hga6.c3;simp at k33 k34;have f33:=frozen_of (o:=3) hga6.c3;have f34:=frozen_of (o:=4) hga6.c3;clear hx' hl2 hl3 hga6 hx6
 go_upto_region 28 with fail
 go_cut [124] (fun s wx=>s = .bool (decide (x=4∨x=5))∧wx=wc)
 case first =>
  by_cases e4:x=4
  ·subst e4;go_wp2
   go_meet
   exact⟨rfl,rfl⟩
  ·have b4:(x==4)=false:=by simpa using e4
   by_cases e5:x=5
   ·subst e5;go_wp2
    go_meet
    exact⟨rfl,rfl⟩
   ·have b5:(x==5)=false:=by simpa using e5
    go_wp2
    go_meet
    exact⟨by simp[e4,e5],rfl⟩
 obtain⟨rfl,rfl⟩:=hcut
 go_upto_if 124 with fail
 go_cut [] (fun wx=>∃u0' u1',GoneAt w w.heap.size b3 (b3+1) (M.length+1) wx (.slice (some ⟨bd,0,none⟩) dep.length cd) (.slice (some ⟨bt,0,none⟩) T'.length ct) (dep.set k d) mx' em' u0' u1' T' (((k:Int),d,e)::M)∧wx.heap[bx]? = some (.cells #[.int .i64 k,.int .i64 d,.int .i64 e] 233))
 case first =>
  by_cases x45:x=4∨x=5
  ·rw[decide_eq_true x45];have y01:=r6 x45;clear x45 r6;rcases y01 with rfl|rfl
   ·go_wp2
    go_meet
    exact⟨true,u1,HGA6.o.setK 3 (.bool true) mx' em' true u1 rfl,(set_other (by omega)).trans HX6.o⟩
   ·go_wp2
    go_meet
    exact⟨u0,true,HGA6.o.setK 4 (.bool true) mx' em' u0 true rfl,(set_other (by omega)).trans HX6.o⟩
  ·rw[decide_eq_false x45];go_wp2
   go_meet
   exact⟨u0,u1,HGA6.o,HX6.o⟩
 obtain⟨u0',u1',hga8,hx8⟩:=hcut;clear HGA6 HX6 kx0 px p3 k33 k34 f33 f34 h0' h1' hb';have TL:=tail30 l w wc (some ⟨b,off,none⟩) cap b3 bx bd cd bt ct k n9 d e mx' em' x y u0' u1' T' M dep
 first
  | (go_step;(refine TL _ J K K2 HJ.o HKK.o HV.o HF.o HGN.o HIN.o h8 h4 HLI.o HCL.o HME.o hbx HT.o hga8 hx8 ?_ ?_ ?_ ?_)<;>rfl)
def wkC(v:Value)(st:StC)(ix:Int): List Value:=v::(encSt st++[.int .i64 ix])
structure Work (w0 W:World) (B:Nat) (v:Value) (lc:List NdC) (l:List Gr.Nd) (st:StC) (s:Gr.Stp) (ix:Int):Prop where
 blk:W.heap[B]? = some (.cells (wkC v st ix).toArray 172)
 own:NodesOwn w0.heap.size W v lc
 inn:NodesIn w0.heap.size W lc l
 stp:StepIs W st s
 sto:OwnsNd w0.heap.size W st.c s.nd
 g:Grew w0 W
 lb:w0.heap.size≤B
theorem Work.grew{w0 W W':World}{B:Nat}{v:Value}{lc:List NdC}{l:List Gr.Nd}{st:StC}{s:Gr.Stp}{ix:Int}(h:Work w0 W B v lc l st s ix)(q:Grew W W'): Work w0 W' B v lc l st s ix :=
 ⟨grew_heap q h.blk,h.own.grew q,h.inn.grew q,h.stp.grew q,h.sto.grew q,h.g.trans q,h.lb⟩
theorem OwnsNd.toN{base:Nat}{w w':World}{c:NdC}{n:Gr.Nd}(o:OwnsNd base w c n)(hb:∀(q:Nat) (cs:Array Value) (t:TypeId),w.heap[q]? = some (.cells cs t)→t≠52→t≠172→w'.heap[q]? = w.heap[q]?): OwnsNd base w' c n:=by
 refine⟨OwnAt.same o.1 fun b h=>?_,OwnAt.same o.2 fun b h=>?_⟩
 ·obtain⟨h1,cs,h2⟩:=OwnAt.block o.1 h;exact hb b cs _ h2 (by decide) (by decide)
 ·obtain⟨h1,cs,h2⟩:=OwnAt.block o.2 h;exact hb b cs _ h2 (by decide) (by decide)
def Oth(w w':World): Prop:=∀(q:Nat) (cs:Array Value) (t:TypeId),w.heap[q]? = some (.cells cs t)→t≠52→t≠172→w'.heap[q]? = w.heap[q]?
theorem NodesIn.oth{base:Nat}{w w':World}{lc:List NdC}{l:List Gr.Nd}(h:NodesIn base w lc l)(hk:Oth w w'): NodesIn base w' lc l :=
 Rel.mono (fun c n ⟨h1,h2⟩=>⟨(h2.toN hk).is h1,h2.toN hk⟩) h
theorem Oth.set{w:World}{b o:Nat}{v:Value}{cs:Array Value}{t:TypeId}(hb:w.heap[b]? = some (.cells cs t))(ht:t=52∨t=172): Oth w (w.setCell ⟨b,o,none⟩ v):=by
 intro q cs' t' hq h1 h2;refine set_other fun e=>?_
 subst e;rw[hb] at hq;cases hq;exact ht.elim h1 h2
theorem Oth.trans{a b c:World}(h:Oth a b)(k:Oth b c): Oth a c:=fun q cs t hq h1 h2=>by
 have e:=h q cs t hq h1 h2;rw[k q cs t (e.trans hq) h1 h2,e]
theorem Rel.set{α β:Type}{R:α→β→Prop}: ∀{xs:List α} {ys:List β},Rel R xs ys→∀(i:Nat) {a:α} {b:β},R a b→Rel R (xs.set i a) (ys.set i b)
 | [],[],_,i,a,b,h=>trivial
 | x::xs,y::ys,h,0,a,b,h2=>⟨h2,h.2⟩
 | x::xs,y::ys,h,i+1,a,b,h2=>⟨h.1,Rel.set h.2 i h2⟩
 | [],_::_,h,_,_,_,_=>h.elim
 | _::_,[],h,_,_,_,_=>h.elim
theorem Rel.cut{α β:Type}{R:α→β→Prop}: ∀{xs:List α} {ys:List β},Rel R xs ys→∀(i:Nat),Rel R (xs.take i++xs.drop (i+1)) (ys.take i++ys.drop (i+1))
 | [],[],_,i=>by simp[Rel]
 | x::xs,y::ys,h,0=>h.2
 | x::xs,y::ys,h,i+1=>⟨h.1,Rel.cut h.2 i⟩
 | [],_::_,h,_=>h.elim
 | _::_,[],h,_=>h.elim
theorem Work.app{w0 W Wc W7:World}{B:Nat}{v v7:Value}{lc:List NdC}{l:List Gr.Nd}{st:StC}{s:Gr.Stp}{ix:Int}(h:Work w0 W B v lc l st s ix)(g:Grew W Wc)(hA:Appended w0 52 13 encNd Wc v (lc++[st.c]) v7 W7):
  W7.heap[B]? = some (.cells (wkC v st ix).toArray 172)∧Work w0 (W7.setCell ⟨B,0,none⟩ v7) B v7 (lc++[st.c]) (l++[s.nd]) st s ix:=by
 have hb:=grew_heap g h.blk;have hown:=h.own.grew g
 have h7:W7.heap[B]? = some (.cells (wkC v st ix).toArray 172):=by
  rw[hA.2.2.2.1 B (heap_lt hb) (OwnAt.other hown hb (by decide))];exact hb
 refine⟨h7,?_⟩;have o1:Oth Wc W7:=fun q cs t hq h1 _=>hA.2.2.2.1 q (heap_lt hq) (OwnAt.other hown hq h1)
 have ho:Oth Wc (W7.setCell ⟨B,0,none⟩ v7):=o1.trans (Oth.set h7 (.inr rfl));have hs:=(h.sto.grew g).toN ho;refine⟨?_,?_,Rel.snoc ((h.inn.grew g).oth ho) ⟨hs.is (h.stp.grew g).nd,hs⟩,?_,hs,hA.1.set h.lb _,h.lb⟩
 ·rw[set_self h7]
  congr 2
 ·exact OwnAt.same hA.2.1 fun q hq=>set_other fun e=>OwnAt.other hA.2.1 h7 (by decide) (e▸hq)
 ·exact { h.stp.grew g with nd:=hs.is (h.stp.grew g).nd }
theorem Work.del{w0 W W':World}{B b n m cap i:Nat}{lc:List NdC}{l:List Gr.Nd}{st:StC}{s:Gr.Stp}{ix:Int}(h:Work w0 W B (.slice (some ⟨b,0,none⟩) n cap) lc l st s ix)(hk:Keep b W W')(hg:Grew w0 W')(hown:NodesOwn w0.heap.size W' (.slice (some ⟨b,0,none⟩) m cap) (lc.take i++lc.drop (i+1))):
  W'.heap[B]? = some (.cells (wkC (.slice (some ⟨b,0,none⟩) n cap) st ix).toArray 172)∧Work w0 (W'.setCell ⟨B,0,none⟩ (.slice (some ⟨b,0,none⟩) m cap)) B (.slice (some ⟨b,0,none⟩) m cap) (lc.take i++lc.drop (i+1)) (l.take i++l.drop (i+1)) st s ix:=by
 obtain⟨-,-,-,-,cur,hcur,-,-⟩:=OwnAt.cells h.own
 have hne:B≠b:=fun e=>by
  have:=h.blk;rw[e,hcur] at this;cases this
 have h7:W'.heap[B]? = some (.cells (wkC (.slice (some ⟨b,0,none⟩) n cap) st ix).toArray 172):=(hk.2 B (heap_lt h.blk) hne).trans h.blk;refine⟨h7,?_⟩
 have o1:Oth W W':=fun q cs t hq h1 _=>hk.2 q (heap_lt hq) fun e=>by
  subst e;rw[hcur] at hq;cases hq;exact h1 rfl
 have ho:=o1.trans (Oth.set (o:=0) (v:=.slice (some ⟨b,0,none⟩) m cap) h7 (.inr rfl));have o2:=h.sto.toN ho;refine⟨?_,?_,Rel.cut (h.inn.oth ho) i,{ h.stp with nd:=o2.is h.stp.nd },o2,hg.set h.lb _,h.lb⟩
 ·rw[set_self h7]
  congr 2
 ·exact OwnAt.same hown fun q hq=>set_other fun e=>OwnAt.other hown h7 (by decide) (e▸hq)
end Go.Proofs.YtipgfjihdglocaaGreat
