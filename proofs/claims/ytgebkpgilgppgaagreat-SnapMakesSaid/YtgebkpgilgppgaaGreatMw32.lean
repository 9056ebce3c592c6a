import Derived.Test.YtgebkpgilgppgaaGreatMw20
import Derived.Test.YtgebkpgilgppgaaGreatMw24
import Derived.Test.YtgebkpgilgppgaaGreatMw29
import Derived.Test.YtgebkpgilgppgaaGreatMw12
import Derived.Test.YtgebkpgilgppgaaGreatMw27
import Derived.Deep.DeepCutAuto
import Derived.Deep.CutBlock
import Derived.Test.YtgebkpgilgppgaaGreatMw26
set_option linter.unusedSimpArgs false
set_option linter.unusedVariables false
set_option maxRecDepth 100000
set_option maxHeartbeats 64000000
namespace Go.Proofs.YtgebkpgilgppgaaGreat
open Go.RowKit Ga
theorem Y3:∀args w,(callFunc 138 args).run Tryz.prog w = .ok (.enter 138 args) w:=enters_of Tryz.func138 (by kernel_rfl) rfl
theorem V3(id:Int)(X:Nat)(w:World)(hX:Ad X w)(hc:w.cell? ⟨X,1,none⟩=some (.int .i64 id)): Z7 138 #[.pointer (some ⟨X,0,none⟩)] (fun n=>n.id==id) w:=by
 intro W c n g hn;obtain⟨R,N,rfl⟩:=g;have hid:=hn.id;have HI:=hY hid;clear hn hid;obtain⟨cid,kind,af,nf,cf,ap,np,cp,par,r0,r1,r2,r3,r4,r5,r6,r7⟩:=c;have hb:(n.id==id)=(cid==id):=by rw[HI.o]
 show Calls Tryz.prog 138 #[.agg #[.int .i64 cid,.int .i64 kind,.slice af nf cf,.slice ap np cp,.int .i64 par,.int .i64 r0,.int .i64 r1,.int .i64 r2,.int .i64 r3,.int .i64 r4,.int .i64 r5,.int .i64 r6,.int .i64 r7],.pointer (some ⟨X,0,none⟩)] _ (Ac (.bool (n.id==id)) _);rw[hb];clear HI hb;go_enter Tryz.func138,Tryz.ntmps138;go_wp2;go_ret;refine⟨rfl,?_⟩;exact gw
theorem Cu.setIx{w0 W:World}{B:Nat}{v:Value}{lc:List BM}{l:List Gr.Nd}{st:Bw}{s:Gr.Stp}{ix:Int}(h:Cu w0 W B v lc l st s ix)(j:Int): Cu w0 (W.setCell ⟨B,16,none⟩ (.int .i64 j)) B v lc l st s j:=by
 have ho:Ko W (W.setCell ⟨B,16,none⟩ (.int .i64 j)):=Ko.set h.blk (.inr rfl);have o2:=h.sto.toN ho;refine⟨?_,?_,h.inn.oth ho,{ h.stp with nd:=o2.is h.stp.nd },o2,h.g.set h.lb _,h.lb⟩
 ·rw[set_self h.blk]
  congr 2
 ·exact OwnAt.same h.own fun q hq=>AQ fun e=>OwnAt.other h.own h.blk (by decide) (e▸hq)
theorem Cu.made{w0 W:World}{B:Nat}{v:Value}{lc:List BM}{l:List Gr.Nd}{st:Bw}{s:Gr.Stp}{C:Array Value}(hB:B=W.heap.size)(hg:AA w0 W)(ho:Aa w0.heap.size W v lc)(hn:Ah w0.heap.size W lc l)(hs:Ai W st s)(h2:Ab w0.heap.size W st.c s.nd)(hC:C=(RS v st 0).toArray): Cu w0 (W.alloc (.cells C 212)) B v lc l st s 0:=by
 subst hC;have g:AA W (W.alloc (.cells (RS v st 0).toArray 212)):=(AA.refl _).alloc _;exact⟨AO _ _ _ hB,ho.grew g,hn.grew g,hs.grew g,h2.grew g,hg.trans g,by rw[hB];exact hg.below.size⟩
theorem Ah.low{base base':Nat}{w:World}{lc:List BM}{l:List Gr.Nd}(h:Ah base w lc l)(hb:base'≤base): Ah base' w lc l :=
 BL.mono (fun c n ⟨h1,h2⟩=>⟨h1,OwnAt.low h2.1 hb,OwnAt.low h2.2 hb⟩) h
def Jz(s:Gr.Stp): Prop:=s.nd.frm.length≤1000∧s.nd.prog.length≤1000
theorem Le{l:List Gr.Nd}{i:Nat}{n:Gr.Nd}(h:Small l)(hn:n.frm.length≤1000∧n.prog.length≤1000): Small (l.set i n):=fun m hm=>by
 rcases List.mem_or_eq_of_mem_set hm with q|rfl
 ·exact h m q
 ·exact hn
theorem Nq{l:List Gr.Nd}{s:Gr.Stp}(h:Small l)(hs:Jz s): Small (FT l s).2∧(FT l s).2.length≤l.length+1:=by
 have hnil:Small ([]:List Gr.Nd):=fun m hm=>by cases hm
 have hcl:(Gr.cleanS s).nd.frm.length≤1000∧(Gr.cleanS s).nd.prog.length≤1000:=by
  unfold Gr.cleanS
  repeat' split
  all_goals first|exact hs|exact⟨by simp,hs.2⟩|exact⟨hs.1,by simp⟩|simp
 unfold FT;split
 ·unfold addE
  repeat' split
  ·exact⟨hnil,by simp⟩
  ·exact⟨hnil,by simp⟩
  ·refine⟨fun m hm=>?_,by simp⟩;rcases List.mem_append.1 hm with q|q
   ·exact h m q
   ·rw[List.mem_singleton.1 q];exact hcl
 ·split
  ·exact⟨hnil,by simp⟩
  ·split
   ·exact⟨hnil,by simp⟩
   ·rename_i n hn
    have hm:=h n (List.mem_of_getElem? hn);unfold Kk Iq
    repeat' split
    all_goals first
     | exact⟨hnil,by simp⟩
     | exact⟨Le h ⟨hm.1,hcl.2⟩,by simp⟩
     | exact⟨Le h ⟨hcl.1,hm.2⟩,by simp⟩
     | exact⟨Le h hm,by simp⟩
     |refine⟨fun m hq=>?_,by simp;omega⟩
      rcases List.mem_append.1 hq with q|q
      ·exact h m (List.mem_of_mem_take q)
      ·exact h m (List.mem_of_mem_drop q)
theorem Tp{s:Gr.Stp}(h:1≤s.kind∧s.kind≤5): (Gr.cleanS s).kind=s.kind:=by
 unfold Gr.cleanS;rcases (show s.kind=1∨s.kind=2∨s.kind=3∨s.kind=4∨s.kind=5 by omega) with e|e|e|e|e<;>simp[e]
theorem A05(w0 W:World)(B:Nat)(v:Value)(lc:List BM)(l:List Gr.Nd)(st:Bw)(s:Gr.Stp)(h:Cu w0 W B v lc l st s (-1)): Calls Tryz.prog 140 #[.pointer (some ⟨B,0,none⟩)] W (Ip w0 B st s (-1) (12,[]) W):=by
 have H:=hY h;have x16:=cell_of (o:=16) h.blk;have pB:=Ad.mk (AB h.blk);simp[RS,CS] at x16;clear h;go_enter Tryz.func140,Tryz.ntmps140;go_wp2;go_ret;exact⟨rfl,fun q=>absurd q (by decide),H.o.g.trans gw⟩
theorem V4(w0 W:World)(B:Nat)(v:Value)(lc:List BM)(l:List Gr.Nd)(st:Bw)(s z:Gr.Stp)(hz:z=Gr.cleanS s)(h:Cu w0 W B v lc l st z (Bh l s.nd.id))(hl:l.length≤100)(h2:s.kind≠2)(hk:1≤s.kind∧s.kind≤5):
  Calls Tryz.prog 140 #[.pointer (some ⟨B,0,none⟩)] W (Ip w0 B st z (Bh l s.nd.id) (FT l s) W):=by
 subst hz;unfold FT;rw[if_neg h2]
 cases hf:Gr.find l s.nd.id with
 |none =>
  have hfi:Bh l s.nd.id = -1:=by unfold Bh;rw[hf]
  rw[hfi] at h ⊢
  exact A05 w0 W B v lc l st _ h
 |some i =>
  obtain⟨hi,hid⟩:=Fy hf;have hfi:Bh l s.nd.id=i:=by unfold Bh;rw[hf]
  rw[hfi] at h ⊢;simp only[List.getElem?_eq_getElem hi];have hck:=Tp hk;have hlen:=BL.len h.inn;rcases OwnAt.form h.own with ⟨-,e⟩|⟨b,cap,rfl,-⟩
  ·rw[e] at hlen;simp at hlen;omega
  rcases (show s.kind=1∨s.kind=3∨s.kind=4∨s.kind=5 by omega) with q|q|q|q
  ·exact A4p w0 W B b _ cap i lc l st _ h hi hl (by rw[hck,q])
  ·exact A4s w0 W B b _ cap i lc l st _ h hi hl (by rw[hck,q])
  ·exact A4r w0 W B b _ cap i lc l st _ h hi hl (by rw[hck,q])
  ·exact A4q w0 W B b _ cap i lc l st _ h hi hl (by rw[hck,q])
def FW(r:Int×List Gr.Nd)(w:World)(e:Ending)(w':World): Prop:=AA w w'∧((r.1≠0∧e = .returned (.tuple #[.slice none 0 0,.int .i64 r.1]))∨(r.1=0∧∃v lc l',e = .returned (.tuple #[v,.int .i64 0])∧Aa w.heap.size w' v lc∧Ah w.heap.size w' lc l'∧l'.Perm r.2∧l'.Pairwise fun a b=>a.id≤b.id))
theorem Tq(v:Value)(l:List Gr.Nd)(c:Bw)(s:Gr.Stp)(w:World)(hv:AV w v l)(hs:Small l)(hst:Ai w c s)(hb:AP l≠0∨s.kind<1∨5<s.kind): Calls Tryz.prog 111 #[v,.agg #[.int .i64 c.kind,.int .i64 c.c.id,.int .i64 c.c.kind,.slice c.c.af c.c.nf c.c.cf,.slice c.c.ap c.c.np c.c.cp,.int .i64 c.c.par,.int .i64 c.c.r0,.int .i64 c.c.r1,.int .i64 c.c.r2,.int .i64 c.c.r3,.int .i64 c.c.r4,.int .i64 c.c.r5,.int .i64 c.c.r6,.int .i64 c.c.r7,.bool c.reset]] w (FW (Gr.stepE AP l s) w):=by
 have HCK:=hY fun W2 (g:AA w W2)=>BU v l W2 (hv.grew g) hs
 have hk:=hst.kind;obtain⟨a,cap,rfl,hm,-⟩:=hv.openC;clear hv hs;obtain⟨kd,⟨id,kind,af,nf,cf,ap,np,cp,par,r0,r1,r2,r3,r4,r5,r6,r7⟩,rs⟩:=c;simp only at hk;by_cases h0:AP l≠0
 ·have he:Gr.stepE AP l s=(10,[]):=if_pos h0;rw[he];obtain⟨r,hr⟩:∃r,AP l=r:=⟨_,rfl⟩;rw[hr] at HCK h0;have hne:(r != 0)=true:=by rw[bne_iff_ne];exact h0
  clear hr h0 hb he hst hk;go_enter Tryz.func111,Tryz.ntmps111
  go_wp2_with (go_at_call 26;refine(HCK.o _ gw).mono ?_;rintro e w1 ⟨rfl,R3,n3,rfl⟩)
  refine bodyPost_ret (v:=.tuple #[.slice none 0 0,.int .i64 10]) (by simp[results,Tryz.results111,go_sem]) rfl ⟨gw,.inl ⟨by decide,rfl⟩⟩
 ·have h1:s.kind<1∨5<s.kind:=hb.resolve_left h0;have he:Gr.stepE AP l s=(11,[]):=by unfold Gr.stepE;rw[if_neg h0,if_pos h1]
  rw[he];have h00:AP l=0:=by simpa using h0
  rw[h00] at HCK;rw[hk] at h1;clear h00 h0 hb he hst hk;rcases h1 with h1|h1
  ·go_enter Tryz.func111,Tryz.ntmps111
   go_wp2_with (go_at_call 26;refine(HCK.o _ gw).mono ?_;rintro e w1 ⟨rfl,R3,n3,rfl⟩)
   refine bodyPost_ret (v:=.tuple #[.slice none 0 0,.int .i64 11]) (by simp[results,Tryz.results111,go_sem]) rfl ⟨gw,.inl ⟨by decide,rfl⟩⟩
  ·have h1':¬(kd<1):=by omega
   go_enter Tryz.func111,Tryz.ntmps111
   go_wp2_with (go_at_call 26;refine(HCK.o _ gw).mono ?_;rintro e w1 ⟨rfl,R3,n3,rfl⟩)
   refine bodyPost_ret (v:=.tuple #[.slice none 0 0,.int .i64 11]) (by simp[results,Tryz.results111,go_sem]) rfl ⟨gw,.inl ⟨by decide,rfl⟩⟩
def capOk(v:Value): Prop:=∀(a:Option Addr) (n cap:Nat),v = .slice a n cap→n≤cap
theorem OwnAt.capOk{α:Type}{base:Nat}{e:TypeId}{k:Nat}{enc:α→List Value}{w:World}{v:Value}{l:List α}(h:OwnAt base e k enc w v l): capOk v:=fun a n cap he=>by
 rcases h.form with ⟨h1,-⟩|⟨b,cap',h1,-,h2,-⟩
 ·rw[h1] at he;cases he;exact Nat.le_refl _
 ·rw[h1] at he;cases he;exact h2
theorem Al{W W':World}{a:Addr}{u:Value}(g:AA W W')(h:W.cell? a=some u): W'.cell? a=some u:=Ei g.below a u h
def BC(u w:World)(v:Value)(l:List Gr.Nd): Prop:=∃lc,AX 13 Ae w v lc∧BL (A9 u) lc l
theorem BC.at{u w:World}{v:Value}{l:List Gr.Nd}(h:BC u w v l)(g:AA u w): AV w v l:=by
 obtain⟨lc,h1,h2⟩:=h;exact⟨lc,h1,BL.len h2,fun i c n hc hn=>(BL.get h2 i c n hc hn).grew g⟩
theorem BC.grew{u w w':World}{v:Value}{l:List Gr.Nd}(h:BC u w v l)(g:AA w w'): BC u w' v l:=let ⟨lc,h1,h2⟩:=h;⟨lc,h1.grew g,h2⟩
def C9(u:World)(r:Int×List Gr.Nd)(w:World)(e:Ending)(w':World): Prop:=AA w w'∧((r.1≠0∧e = .returned (.tuple #[.slice none 0 0,.int .i64 r.1]))∨(r.1=0∧∃v,e = .returned (.tuple #[v,.int .i64 0])∧BC u w' v r.2∧capOk v))
def Fj(u w W:World)(v:Value)(lc:List BM)(l:List Gr.Nd): Prop:=Aa w.heap.size W v lc∧BL (A9 u) lc l∧AA w W
theorem Fj.at{u w W:World}{v:Value}{lc:List BM}{l:List Gr.Nd}(h:Fj u w W v lc l): BC u W v l :=
 ⟨lc,OwnAt.rows h.1 AZ,h.2.1⟩
theorem Fj.grew{u w W W2:World}{v:Value}{lc:List BM}{l:List Gr.Nd}(h:Fj u w W v lc l)(g:AA W W2): Fj u w W2 v lc l :=
 ⟨h.1.grew g,h.2.1,h.2.2.trans g⟩
theorem A1A{base b n cap i:Nat}{W:World}{lc:List BM}{c:BM}{st:Bw}(h:Aa base W (.slice (some ⟨b,0,none⟩) n cap) lc)(hc:lc[i]? = some c):
  Aa base (((((((((W.setCell ⟨b,i*13+4,none⟩ (.int .i64 st.c.par)).setCell ⟨b,i*13+5,none⟩ (.int .i64 st.c.r0)).setCell ⟨b,i*13+6,none⟩ (.int .i64 st.c.r1)).setCell ⟨b,i*13+7,none⟩ (.int .i64 st.c.r2)).setCell ⟨b,i*13+8,none⟩ (.int .i64 st.c.r3)).setCell ⟨b,i*13+9,none⟩ (.int .i64 st.c.r4)).setCell ⟨b,i*13+10,none⟩ (.int .i64 st.c.r5)).setCell ⟨b,i*13+11,none⟩ (.int .i64 st.c.r6)).setCell ⟨b,i*13+12,none⟩ (.int .i64 st.c.r7)) (.slice (some ⟨b,0,none⟩) n cap) (lc.set i { c with par:=st.c.par,r0:=st.c.r0,r1:=st.c.r1,r2:=st.c.r2,r3:=st.c.r3,r4:=st.c.r4,r5:=st.c.r5,r6:=st.c.r6,r7:=st.c.r7 }):=by
 have hic:i<lc.length:=(List.getElem?_eq_some_iff.1 hc).1
 have n1:Aa base (W.setCell ⟨b,i*13+4,none⟩ (.int .i64 st.c.par)) (.slice (some ⟨b,0,none⟩) n cap) (lc.set i { c with par:=st.c.par }):=by
  have:=Bf (c:=c) (c':={ c with par:=st.c.par }) (f:=4) (i:=i) (x:=(.int .i64 st.c.par)) h hc (by decide) rfl;exact this
 have n2:Aa base ((W.setCell ⟨b,i*13+4,none⟩ (.int .i64 st.c.par)).setCell ⟨b,i*13+5,none⟩ (.int .i64 st.c.r0)) (.slice (some ⟨b,0,none⟩) n cap) (lc.set i { c with par:=st.c.par,r0:=st.c.r0 }):=by
  have:=Bf (c:={ c with par:=st.c.par }) (c':={ c with par:=st.c.par,r0:=st.c.r0 }) (f:=5) (i:=i) (x:=(.int .i64 st.c.r0)) n1 (by rw[List.getElem?_set_self hic]) (by decide) rfl
  rwa [List.set_set] at this
 have n3:Aa base (((W.setCell ⟨b,i*13+4,none⟩ (.int .i64 st.c.par)).setCell ⟨b,i*13+5,none⟩ (.int .i64 st.c.r0)).setCell ⟨b,i*13+6,none⟩ (.int .i64 st.c.r1)) (.slice (some ⟨b,0,none⟩) n cap) (lc.set i { c with par:=st.c.par,r0:=st.c.r0,r1:=st.c.r1 }):=by
  have:=Bf (c:={ c with par:=st.c.par,r0:=st.c.r0 }) (c':={ c with par:=st.c.par,r0:=st.c.r0,r1:=st.c.r1 }) (f:=6) (i:=i) (x:=(.int .i64 st.c.r1)) n2 (by rw[List.getElem?_set_self hic]) (by decide) rfl
  rwa [List.set_set] at this
 have n4:Aa base ((((W.setCell ⟨b,i*13+4,none⟩ (.int .i64 st.c.par)).setCell ⟨b,i*13+5,none⟩ (.int .i64 st.c.r0)).setCell ⟨b,i*13+6,none⟩ (.int .i64 st.c.r1)).setCell ⟨b,i*13+7,none⟩ (.int .i64 st.c.r2)) (.slice (some ⟨b,0,none⟩) n cap) (lc.set i { c with par:=st.c.par,r0:=st.c.r0,r1:=st.c.r1,r2:=st.c.r2 }):=by
  have:=Bf (c:={ c with par:=st.c.par,r0:=st.c.r0,r1:=st.c.r1 }) (c':={ c with par:=st.c.par,r0:=st.c.r0,r1:=st.c.r1,r2:=st.c.r2 }) (f:=7) (i:=i) (x:=(.int .i64 st.c.r2)) n3 (by rw[List.getElem?_set_self hic]) (by decide) rfl
  rwa [List.set_set] at this
 have n5:Aa base (((((W.setCell ⟨b,i*13+4,none⟩ (.int .i64 st.c.par)).setCell ⟨b,i*13+5,none⟩ (.int .i64 st.c.r0)).setCell ⟨b,i*13+6,none⟩ (.int .i64 st.c.r1)).setCell ⟨b,i*13+7,none⟩ (.int .i64 st.c.r2)).setCell ⟨b,i*13+8,none⟩ (.int .i64 st.c.r3)) (.slice (some ⟨b,0,none⟩) n cap) (lc.set i { c with par:=st.c.par,r0:=st.c.r0,r1:=st.c.r1,r2:=st.c.r2,r3:=st.c.r3 }):=by
  have:=Bf (c:={ c with par:=st.c.par,r0:=st.c.r0,r1:=st.c.r1,r2:=st.c.r2 }) (c':={ c with par:=st.c.par,r0:=st.c.r0,r1:=st.c.r1,r2:=st.c.r2,r3:=st.c.r3 }) (f:=8) (i:=i) (x:=(.int .i64 st.c.r3)) n4 (by rw[List.getElem?_set_self hic]) (by decide) rfl
  rwa [List.set_set] at this
 have n6:Aa base ((((((W.setCell ⟨b,i*13+4,none⟩ (.int .i64 st.c.par)).setCell ⟨b,i*13+5,none⟩ (.int .i64 st.c.r0)).setCell ⟨b,i*13+6,none⟩ (.int .i64 st.c.r1)).setCell ⟨b,i*13+7,none⟩ (.int .i64 st.c.r2)).setCell ⟨b,i*13+8,none⟩ (.int .i64 st.c.r3)).setCell ⟨b,i*13+9,none⟩ (.int .i64 st.c.r4)) (.slice (some ⟨b,0,none⟩) n cap) (lc.set i { c with par:=st.c.par,r0:=st.c.r0,r1:=st.c.r1,r2:=st.c.r2,r3:=st.c.r3,r4:=st.c.r4 }):=by
  have:=Bf (c:={ c with par:=st.c.par,r0:=st.c.r0,r1:=st.c.r1,r2:=st.c.r2,r3:=st.c.r3 }) (c':={ c with par:=st.c.par,r0:=st.c.r0,r1:=st.c.r1,r2:=st.c.r2,r3:=st.c.r3,r4:=st.c.r4 }) (f:=9) (i:=i) (x:=(.int .i64 st.c.r4)) n5 (by rw[List.getElem?_set_self hic]) (by decide) rfl
  rwa [List.set_set] at this
 have n7:Aa base (((((((W.setCell ⟨b,i*13+4,none⟩ (.int .i64 st.c.par)).setCell ⟨b,i*13+5,none⟩ (.int .i64 st.c.r0)).setCell ⟨b,i*13+6,none⟩ (.int .i64 st.c.r1)).setCell ⟨b,i*13+7,none⟩ (.int .i64 st.c.r2)).setCell ⟨b,i*13+8,none⟩ (.int .i64 st.c.r3)).setCell ⟨b,i*13+9,none⟩ (.int .i64 st.c.r4)).setCell ⟨b,i*13+10,none⟩ (.int .i64 st.c.r5)) (.slice (some ⟨b,0,none⟩) n cap) (lc.set i { c with par:=st.c.par,r0:=st.c.r0,r1:=st.c.r1,r2:=st.c.r2,r3:=st.c.r3,r4:=st.c.r4,r5:=st.c.r5 }):=by
  have:=Bf (c:={ c with par:=st.c.par,r0:=st.c.r0,r1:=st.c.r1,r2:=st.c.r2,r3:=st.c.r3,r4:=st.c.r4 }) (c':={ c with par:=st.c.par,r0:=st.c.r0,r1:=st.c.r1,r2:=st.c.r2,r3:=st.c.r3,r4:=st.c.r4,r5:=st.c.r5 }) (f:=10) (i:=i) (x:=(.int .i64 st.c.r5)) n6 (by rw[List.getElem?_set_self hic]) (by decide) rfl
  rwa [List.set_set] at this
 have n8:Aa base ((((((((W.setCell ⟨b,i*13+4,none⟩ (.int .i64 st.c.par)).setCell ⟨b,i*13+5,none⟩ (.int .i64 st.c.r0)).setCell ⟨b,i*13+6,none⟩ (.int .i64 st.c.r1)).setCell ⟨b,i*13+7,none⟩ (.int .i64 st.c.r2)).setCell ⟨b,i*13+8,none⟩ (.int .i64 st.c.r3)).setCell ⟨b,i*13+9,none⟩ (.int .i64 st.c.r4)).setCell ⟨b,i*13+10,none⟩ (.int .i64 st.c.r5)).setCell ⟨b,i*13+11,none⟩ (.int .i64 st.c.r6)) (.slice (some ⟨b,0,none⟩) n cap) (lc.set i { c with par:=st.c.par,r0:=st.c.r0,r1:=st.c.r1,r2:=st.c.r2,r3:=st.c.r3,r4:=st.c.r4,r5:=st.c.r5,r6:=st.c.r6 }):=by
  have:=Bf (c:={ c with par:=st.c.par,r0:=st.c.r0,r1:=st.c.r1,r2:=st.c.r2,r3:=st.c.r3,r4:=st.c.r4,r5:=st.c.r5 }) (c':={ c with par:=st.c.par,r0:=st.c.r0,r1:=st.c.r1,r2:=st.c.r2,r3:=st.c.r3,r4:=st.c.r4,r5:=st.c.r5,r6:=st.c.r6 }) (f:=11) (i:=i) (x:=(.int .i64 st.c.r6)) n7 (by rw[List.getElem?_set_self hic]) (by decide) rfl
  rwa [List.set_set] at this
 have n9:Aa base (((((((((W.setCell ⟨b,i*13+4,none⟩ (.int .i64 st.c.par)).setCell ⟨b,i*13+5,none⟩ (.int .i64 st.c.r0)).setCell ⟨b,i*13+6,none⟩ (.int .i64 st.c.r1)).setCell ⟨b,i*13+7,none⟩ (.int .i64 st.c.r2)).setCell ⟨b,i*13+8,none⟩ (.int .i64 st.c.r3)).setCell ⟨b,i*13+9,none⟩ (.int .i64 st.c.r4)).setCell ⟨b,i*13+10,none⟩ (.int .i64 st.c.r5)).setCell ⟨b,i*13+11,none⟩ (.int .i64 st.c.r6)).setCell ⟨b,i*13+12,none⟩ (.int .i64 st.c.r7)) (.slice (some ⟨b,0,none⟩) n cap) (lc.set i { c with par:=st.c.par,r0:=st.c.r0,r1:=st.c.r1,r2:=st.c.r2,r3:=st.c.r3,r4:=st.c.r4,r5:=st.c.r5,r6:=st.c.r6,r7:=st.c.r7 }):=by
  have:=Bf (c:={ c with par:=st.c.par,r0:=st.c.r0,r1:=st.c.r1,r2:=st.c.r2,r3:=st.c.r3,r4:=st.c.r4,r5:=st.c.r5,r6:=st.c.r6 }) (c':={ c with par:=st.c.par,r0:=st.c.r0,r1:=st.c.r1,r2:=st.c.r2,r3:=st.c.r3,r4:=st.c.r4,r5:=st.c.r5,r6:=st.c.r6,r7:=st.c.r7 }) (f:=12) (i:=i) (x:=(.int .i64 st.c.r7)) n8 (by rw[List.getElem?_set_self hic]) (by decide) rfl
  rwa [List.set_set] at this
 exact n9
theorem Fj.set1{u w W:World}{b n cap i:Nat}{lc:List BM}{l:List Gr.Nd}{st:Bw}{s:Gr.Stp}{c:BM}(h:Fj u w W (.slice (some ⟨b,0,none⟩) n cap) lc l)(hs:Ai u st s)(hc:lc[i]? = some c)(hi:i<l.length):
  Fj u w (W.setCell ⟨b,i*13+3,none⟩ (.slice st.c.ap st.c.np st.c.cp)) (.slice (some ⟨b,0,none⟩) n cap) (lc.set i { c with ap:=st.c.ap,np:=st.c.np,cp:=st.c.cp }) (l.set i { l[i] with prog:=s.nd.prog }):=by
 obtain⟨h1,h2,h3⟩:=h;have hni:=BL.get h2 i c l[i] hc (List.getElem?_eq_getElem hi);obtain⟨_,hbb,_⟩:=OwnAt.cells h1;exact⟨Bf h1 hc (by decide) rfl,BL.set h2 i { hni with p:=hs.nd.p },h3.set hbb _⟩
theorem Fj.set5{u w W:World}{b n cap i:Nat}{lc:List BM}{l:List Gr.Nd}{st:Bw}{s:Gr.Stp}{c:BM}(h:Fj u w W (.slice (some ⟨b,0,none⟩) n cap) lc l)(hs:Ai u st s)(hc:lc[i]? = some c)(hi:i<l.length):
  Fj u w (W.setCell ⟨b,i*13+2,none⟩ (.slice st.c.af st.c.nf st.c.cf)) (.slice (some ⟨b,0,none⟩) n cap) (lc.set i { c with af:=st.c.af,nf:=st.c.nf,cf:=st.c.cf }) (l.set i { l[i] with frm:=s.nd.frm }):=by
 obtain⟨h1,h2,h3⟩:=h;have hni:=BL.get h2 i c l[i] hc (List.getElem?_eq_getElem hi);obtain⟨_,hbb,_⟩:=OwnAt.cells h1;exact⟨Bf h1 hc (by decide) rfl,BL.set h2 i { hni with f:=hs.nd.f,fc:=hs.nd.fc },h3.set hbb _⟩
theorem Fj.set4{u w W:World}{b n cap i:Nat}{lc:List BM}{l:List Gr.Nd}{st:Bw}{s:Gr.Stp}{c:BM}(h:Fj u w W (.slice (some ⟨b,0,none⟩) n cap) lc l)(hs:Ai u st s)(hc:lc[i]? = some c)(hi:i<l.length):
  Fj u w (((((((((W.setCell ⟨b,i*13+4,none⟩ (.int .i64 st.c.par)).setCell ⟨b,i*13+5,none⟩ (.int .i64 st.c.r0)).setCell ⟨b,i*13+6,none⟩ (.int .i64 st.c.r1)).setCell ⟨b,i*13+7,none⟩ (.int .i64 st.c.r2)).setCell ⟨b,i*13+8,none⟩ (.int .i64 st.c.r3)).setCell ⟨b,i*13+9,none⟩ (.int .i64 st.c.r4)).setCell ⟨b,i*13+10,none⟩ (.int .i64 st.c.r5)).setCell ⟨b,i*13+11,none⟩ (.int .i64 st.c.r6)).setCell ⟨b,i*13+12,none⟩ (.int .i64 st.c.r7)) (.slice (some ⟨b,0,none⟩) n cap) (lc.set i { c with par:=st.c.par,r0:=st.c.r0,r1:=st.c.r1,r2:=st.c.r2,r3:=st.c.r3,r4:=st.c.r4,r5:=st.c.r5,r6:=st.c.r6,r7:=st.c.r7 }) (l.set i { l[i] with par:=s.nd.par,route:=s.nd.route }):=by
 obtain⟨h1,h2,h3⟩:=h;have hni:=BL.get h2 i c l[i] hc (List.getElem?_eq_getElem hi);obtain⟨_,hbb,_⟩:=OwnAt.cells h1;exact⟨A1A h1 hc,BL.set h2 i { hni with par:=hs.nd.par,route:=hs.nd.route },(((((((((h3.set hbb _).set hbb _).set hbb _).set hbb _).set hbb _).set hbb _).set hbb _).set hbb _).set hbb _)⟩
theorem FB(v:Value)(l:List Gr.Nd)(x:Int)(w:World)(hv:AV w v l): Calls Tryz.prog 119 #[v,.int .i64 x] w fun e w'=>e = .returned (.bool (Io l x))∧w'=w:=by
 obtain⟨a,cap,rfl,hm,hx⟩:=hv.openC;have HX:=hY hx;clear hx hv;go_enter Tryz.func119,Tryz.ntmps119;go_wp2
 go_loopw [5] (fun i wr=>∃k:Nat,k≤l.length∧i = .int .i64 k∧wr=w∧Io (l.take k) x=false) (fun i _=>l.length-(intOf i).toNat)
 case atStart=>exact⟨0,Nat.zero_le _,rfl,rfl,by simp[Io]⟩
 case round =>
  obtain⟨k,hk,rfl,rfl,hno⟩:=hrel;by_cases hlt:k<l.length
  ·have hsuc:=QI (x:=x) hlt;rw[hno,Bool.false_or] at hsuc;obtain⟨b,off,c,rfl,hb,hn,c0,c1,c2,-⟩:=HX.o k hlt;have HC:=hY (KW _ _ x _ hn.f);cases hx1:decide (x∈l[k].frm)
   ·rw[hx1] at HC hsuc;have HS:=hY hsuc;clear hx1 hsuc hn
    go_wp2_with (go_at_call 24;refine HC.o.mono ?_;rintro e w1 ⟨rfl,hw1⟩;obtain rfl:=hw1)
    go_roundw
    case rel=>exact⟨k+1,by omega,by go_num,trivial,HS.o⟩
    case measure=>first|(simp[intOf];done)|(simp[intOf];omega)
   ·rw[hx1] at HC hsuc
    have hall:Io l x=true:=by
     unfold Io at hsuc ⊢;rw[List.any_eq_true] at hsuc ⊢;obtain⟨m,h1,h2⟩:=hsuc;exact⟨m,List.mem_of_mem_take h1,h2⟩
    have HS:=hY hall;clear hx1 hsuc hn hall
    go_wp2_with (go_at_call 24;refine HC.o.mono ?_;rintro e w1 ⟨rfl,hw1⟩;obtain rfl:=hw1)
    refine bodyPost_ret (v:=.bool true) (by simp[results,Tryz.results119,go_sem]) rfl (by rw[HS.o];first|exact⟨rfl,rfl⟩|exact⟨rfl,trivial⟩|trivial)
  ·obtain rfl:k=l.length:=by omega
   rw[List.take_length] at hno;have HF:=hY hno;clear hno;go_wp2;refine bodyPost_ret (v:=.bool false) (by simp[results,Tryz.results119,go_sem]) rfl (by rw[HF.o];first|exact⟨rfl,rfl⟩|exact⟨rfl,trivial⟩|trivial)
theorem Tt{l l':List Gr.Nd}{s:Gr.Stp}{w w':World}(hp:l'.Perm l)(r:Int)(hr:r≠0)(h:(Gr.stepE AP l' s).1=r)(g:AA w w'): FW (Gr.stepE AP l s) w (.returned (.tuple #[.slice none 0 0,.int .i64 r])) w':=by
 have e:=(Gr.stepE_perm Ld hp s).1;rw[h] at e;exact⟨g,.inl ⟨by rw[←e];exact hr,by rw[←e]⟩⟩
theorem Y4{l l' l2:List Gr.Nd}{s:Gr.Stp}{w w':World}{e:Ending}{W:World}(hp:l'.Perm l)(h:Gr.stepE AP l' s=(0,l2))(hn:LQ l2 W e w')(g:AA w W): ∃v,e = .returned v∧FW (Gr.stepE AP l s) w (.returned (.tuple #[v,.int .i64 0])) w':=by
 obtain⟨v,lc,l3,rfl,h1,h2,h3,h4,h5⟩:=hn;obtain⟨e1,e2⟩:=Gr.stepE_perm Ld hp s;rw[h] at e1 e2;exact⟨v,rfl,g.trans h5,.inr ⟨e1.symm,v,lc,l3,rfl,OwnAt.low h1 g.below.size,Ah.low h2 g.below.size,h3.trans e2,h4⟩⟩
theorem step_ok(v:Value)(l:List Gr.Nd)(c:Bw)(s:Gr.Stp)(w:World)(hv:AV w v l)(hs:Small l)(hst:Ai w c s)(hss:Jz s)(hc:AP l=0)(hk:1≤s.kind∧s.kind≤5): Calls Tryz.prog 111 #[v,.agg #[.int .i64 c.kind,.int .i64 c.c.id,.int .i64 c.c.kind,.slice c.c.af c.c.nf c.c.cf,.slice c.c.ap c.c.np c.c.cp,.int .i64 c.c.par,.int .i64 c.c.r0,.int .i64 c.c.r1,.int .i64 c.c.r2,.int .i64 c.c.r3,.int .i64 c.c.r4,.int .i64 c.c.r5,.int .i64 c.c.r6,.int .i64 c.c.r7,.bool c.reset]] w (FW (Gr.stepE AP l s) w):=by
 have hl8:=(Bj hc).len;have HCK:=hY fun W2 (g:AA w W2)=>BU v l W2 (hv.grew g) hs
 rw[hc] at HCK;have HN:=hY fun W2 (g:AA w W2)=>EF v l W2 (hv.grew g) hs (by omega)
 have HCL:=hY fun W2 (g:AA w W2)=>D5 c s W2 (hst.grew g) hss
 have hsk:=hst.kind;have hsi:=hst.nd.id;obtain⟨a,cap,rfl,hm,-⟩:=hv.openC;have HST:=hY hst;clear hv hst;obtain⟨kd,⟨id,kind,af,nf,cf,ap,np,cp,par,r0,r1,r2,r3,r4,r5,r6,r7⟩,rs⟩:=c;simp only at hsk hsi HCL;have hk1:¬(kd<1):=by omega
 have hk5:¬(5<kd):=by omega
 have HK:=hY hk;have HC:=hY hc;have HSM:=hY hs;have HSS:=hY hss;have HL8:=hY hl8;have HSK:=hY hsk;have HSI:=hY hsi;have hbx:=AO w (.cells #[.int .i64 kd,.int .i64 id,.int .i64 kind,.slice af nf cf,.slice ap np cp,.int .i64 par,.int .i64 r0,.int .i64 r1,.int .i64 r2,.int .i64 r3,.int .i64 r4,.int .i64 r5,.int .i64 r6,.int .i64 r7,.bool rs] 66) _ rfl;have HBX:=hY hbx;clear hk hc hs hss hl8 hsk hsi hbx;go_enter Tryz.func111,Tryz.ntmps111
 go_upto_region 5 with (go_at_call 26;refine(HCK.o _ gw).mono ?_;rintro e w1 ⟨rfl,R3,n3,rfl⟩)
 go_cut [6] (fun s6 wx=>∃B v' lc l' d,s6 = .pointer (some ⟨B,0,none⟩)∧Cu w wx B v' lc l' d (Gr.cleanS s) 0∧l'.Perm l∧wx.heap[w.heap.size]? = some (.cells #[.int .i64 kd,.int .i64 id,.int .i64 kind,.slice af nf cf,.slice ap np cp,.int .i64 par,.int .i64 r0,.int .i64 r1,.int .i64 r2,.int .i64 r3,.int .i64 r4,.int .i64 r5,.int .i64 r6,.int .i64 r7,.bool rs] 66))
 case first =>
  refine wp_region_noPanic ?_
  go_region_law (first
   | (go_simp;go_at_call 27;refine(HN.o _ gw).mono ?_;rintro e1 w1 ⟨v1,lc1,l1,rfl,ho1,hn1,hp1,-,R1,m1,rfl⟩;obtain⟨av,cv,rfl⟩:=(OwnAt.rows ho1 AZ).len;(have HO1:=hY ho1);(have HN1:=hY hn1);(have HP1:=hY hp1);clear ho1 hn1 hp1)
   | (go_simp;go_at_call 40;refine(HCL.o _ gw).mono ?_;rintro e2 w2 ⟨⟨kd2,⟨id2,kind2,af2,nf2,cf2,ap2,np2,cp2,par2,s0,s1,s2,s3,s4,s5,s6,s7⟩,rs2⟩,rfl,hd2,ho2,R2,m2,rfl⟩;(have HD2:=hY hd2);(have HO2:=hY ho2);clear hd2 ho2))
  all_goals
   refine NoPanic.normal ?_;go_wp2
   go_meet
   refine⟨_,.slice av lc1.length cv,lc1,l1,⟨kd2,⟨id2,kind2,af2,nf2,cf2,ap2,np2,cp2,par2,s0,s1,s2,s3,s4,s5,s6,s7⟩,rs2⟩,rfl,?_,HP1.o,AC gw HBX.o⟩;exact Cu.made (by simp[go_sem]) gw (OwnAt.grew (OwnAt.low HO1.o (by simp[go_sem];omega)) gw) (Ah.grew (Ah.low HN1.o (by simp[go_sem];omega)) gw) (HD2.o.grew gw) (Ab.grew (base:=w.heap.size) ⟨OwnAt.low HO2.o.1 (by simp[go_sem];omega),OwnAt.low HO2.o.2 (by simp[go_sem];omega)⟩ gw) rfl
 obtain⟨B,v',lc,l',d,rfl,hw,hp,hbx⟩:=hcut;have hlen:=BL.len hw.inn;have hl9:l'.length≤8:=by rw[hp.length_eq];exact HL8.o
 have hck':AP l'=0:=(Ld.perm hp).trans HC.o;have hsm':Small l':=fun m hm=>HSM.o m (hp.mem_iff.1 hm)
 have HW:=hY hw;have HP:=hY hp;have HBX2:=hY hbx;have HL9:=hY hl9;have HCK2:=hY hck';have HSM2:=hY hsm';have HIX:=hY fun W2 (g:AA wc W2)=>IV v' l' 138 #[.pointer (some ⟨w.heap.size,0,none⟩)] (fun n=>n.id==s.nd.id) W2 ((Ah.at hw.inn hw.own).grew g) Y3 (V3 s.nd.id w.heap.size W2 (Ad.mk (AB (AC g hbx))) (by rw[cell_of (AC g hbx),HSI.o];rfl))
 have x0:=cell_of (o:=0) hw.blk;have x16:=cell_of (o:=16) hw.blk;have f16:=AJ (o:=16) hw.blk;have pB:=Ad.mk (AB hw.blk);obtain⟨av,cv,rfl⟩:=(OwnAt.rows hw.own AZ).len;simp[RS,CS] at x0 x16;have y0:=cell_of (o:=0) hbx;simp at y0;have pX:=Ad.mk (AB hbx)
 have hBX:¬(B=w.heap.size):=fun e=>by
  have:=hw.blk;rw[e,hbx] at this;cases this
 have hBX2:¬(w.heap.size=B):=fun e=>hBX e.symm
 have HW6:Hid (∀W2,AA wc W2→Cu w (W2.setCell ⟨B,16,none⟩ (.int .i64 (Bh l' s.nd.id))) B (.slice av lc.length cv) lc l' d (Gr.cleanS s) (Bh l' s.nd.id)):=hY fun W2 g=>(HW.o.grew g).setIx _
 clear hw hp hbx hlen hl9 hck' hsm' HBX
 go_upto_if 38 with (first
  | (go_at_call 64;((with_reducible refine Calls.mono (HIX.o _ ?_) ?_));(focus(exact gw));rintro e w1 ⟨rfl,R4,n4,rfl⟩;rw[LM]))
 have hwy:Cu w ((wc.setCell ⟨B,16,none⟩ (.int .i64 (Bh l' s.nd.id))).more R4 n4) B (.slice av lc.length cv) lc l' d (Gr.cleanS s) (Bh l' s.nd.id):=Cu.grew (HW6.o _ (AA.refl _)) gw;have HWY:=hY hwy;clear hwy x0 x16 f16 pB y0 pX hBX hBX2 HIX HW6 HW HBX2;generalize (wc.setCell ⟨B,16,none⟩ (.int .i64 (Bh l' s.nd.id))).more R4 n4=wy at *
 go_cut [7] (fun s7 wz=>s7 = .int .i64 (FT l' s).1∧((FT l' s).1=0→∃v9 lc9,Cu w wz B v9 lc9 (FT l' s).2 d (Gr.cleanS s) (Bh l' s.nd.id))∧AA w wz)
 case first =>
  by_cases h2:kd=2
  ·have he:FT l' s=addE l' (Gr.cleanS s) (Bh l' s.nd.id):=if_pos (by rw[HSK.o];exact h2);have HAD:=hY fun W2 (g:AA wy W2)=>A2a w W2 B _ lc l' d (Gr.cleanS s) _ (HWY.o.grew g) (by have:=HL9.o;omega)
   have HE:=hY he;subst h2;clear he
   go_wp2_with (go_at_call 139;((with_reducible refine Calls.mono (HAD.o _ ?_) ?_));(focus(exact gw));rintro e9 w9 ⟨rfl,hw9,hg9⟩;(have HW9:=hY hw9);(have HG9:=hY hg9);clear hw9 hg9)
   go_meet
   rw[HE.o];exact⟨rfl,HW9.o,HG9.o⟩
  ·have hne:(kd==2)=false:=by simpa using h2
   have HCH:=hY fun W2 (g:AA wy W2)=>V4 w W2 B _ lc l' d s _ rfl (HWY.o.grew g) (by have:=HL9.o;omega) (by rw[HSK.o];exact h2) HK.o
   clear h2
   go_wp2_with (go_at_call 140;((with_reducible refine Calls.mono (HCH.o _ ?_) ?_));(focus(exact gw));rintro e9 w9 ⟨rfl,hw9,hg9⟩;(have HW9:=hY hw9);(have HG9:=hY hg9);clear hw9 hg9)
   go_meet
   exact⟨rfl,HW9.o,HG9.o⟩
 obtain⟨rfl,hW9,hg9⟩:=hcut;have hws:=QF (s:=s) HCK2.o HK.o;obtain⟨hsm9,hlen9⟩:=Nq (s:=s) HSM2.o HSS.o;generalize FT l' s=r at *;obtain⟨r1,l9⟩:=r;simp only at hW9 hws hsm9 hlen9 ⊢;have HG9:=hY hg9;by_cases hr:r1=0
 case neg =>
  have hst:(Gr.stepE AP l' s).1=r1:=by
   rcases hws with ⟨_,e⟩|⟨e,_⟩
   ·rw[e]
   ·exact absurd e hr
  have HS9:=hY hst;have HR9:=hY hr;have hb1:(r1==0)=false:=by simpa using hr
  have hb2:(r1 != 0)=true:=by rw[bne_iff_ne];exact hr
  clear hst hws hW9 hg9 hr;go_wp2;exact bodyPost_ret (v:=.tuple #[.slice none 0 0,.int .i64 r1]) (by simp[results,Tryz.results111,go_sem]) rfl (Tt HP.o r1 HR9.o HS9.o (HG9.o.trans gw))
 subst hr;obtain⟨v9,lc9,hw9⟩:=hW9 rfl
 have hst:Gr.stepE AP l' s=Gr.finE AP l9:=by
  rcases hws with ⟨e,_⟩|⟨_,e⟩
  ·exact absurd rfl e
  ·exact e
 have hat:=Ah.at hw9.inn hw9.own;have HCK9:=hY fun W2 (g:AA wc W2)=>BU v9 l9 W2 (hat.grew g) hsm9
 have HN9:=hY fun W2 (g:AA wc W2)=>EF v9 l9 W2 (hat.grew g) hsm9 (by have:=HL9.o;omega)
 have x0:=cell_of (o:=0) hw9.blk;have pB:=Ad.mk (AB hw9.blk);obtain⟨av9,cv9,rfl⟩:=(OwnAt.rows hw9.own AZ).len;simp[RS] at x0;obtain⟨q,hq⟩:∃q,AP l9=q:=⟨_,rfl⟩;rw[hq] at HCK9;have HST9:=hY hst;have HQ:=hY hq;clear hst hq hws hW9 hg9 hw9 hat hsm9 hlen9;by_cases hq0:q=0
 case neg =>
  have hb2:(q != 0)=true:=by rw[bne_iff_ne];exact hq0
  have HS9:Hid ((Gr.stepE AP l' s).1=q):=hY (by rw[HST9.o];unfold Gr.finE;rw[HQ.o,if_pos hq0]);have HQ0:=hY hq0;clear hq0
  go_wp2_with (go_at_call 26;((with_reducible refine Calls.mono (HCK9.o _ ?_) ?_));(focus(exact gw));rintro e w1 ⟨rfl,R5,n5,rfl⟩)
  exact bodyPost_ret (v:=.tuple #[.slice none 0 0,.int .i64 q]) (by simp[results,Tryz.results111,go_sem]) rfl (Tt HP.o q HQ0.o HS9.o (HG9.o.trans gw))
 subst hq0;have HS9:Hid (Gr.stepE AP l' s=(0,l9)):=hY (by rw[HST9.o];unfold Gr.finE;rw[HQ.o];rfl)
 go_wp2_with (first
  | (go_at_call 26;((with_reducible refine Calls.mono (HCK9.o _ ?_) ?_));(focus(exact gw));rintro e w1 ⟨rfl,R5,n5,rfl⟩)
  | (go_at_call 27;((with_reducible refine Calls.mono (HN9.o _ ?_) ?_));(focus(exact gw));intro e6 w6 hn6;obtain⟨v6,rfl,hp6⟩:=Y4 HP.o HS9.o hn6 (HG9.o.trans gw);(have HP6:=hY hp6);clear hn6 hp6))
 exact bodyPost_ret (v:=.tuple #[v6,.int .i64 0]) (by simp[results,Tryz.results111,go_sem]) rfl HP6.o
theorem RO(v:Value)(l:List Gr.Nd)(c:Bw)(s:Gr.Stp)(w:World)(hv:AV w v l)(hs:Small l)(hst:Ai w c s)(hss:Jz s): Calls Tryz.prog 111 #[v,.agg #[.int .i64 c.kind,.int .i64 c.c.id,.int .i64 c.c.kind,.slice c.c.af c.c.nf c.c.cf,.slice c.c.ap c.c.np c.c.cp,.int .i64 c.c.par,.int .i64 c.c.r0,.int .i64 c.c.r1,.int .i64 c.c.r2,.int .i64 c.c.r3,.int .i64 c.c.r4,.int .i64 c.c.r5,.int .i64 c.c.r6,.int .i64 c.c.r7,.bool c.reset]] w (FW (Gr.stepE AP l s) w):=by
 by_cases hc:AP l=0
 ·by_cases hk:1≤s.kind∧s.kind≤5
  ·exact step_ok v l c s w hv hs hst hss hc hk
  ·exact Tq v l c s w hv hs hst (.inr (by omega))
 ·exact Tq v l c s w hv hs hst (.inl hc)
theorem Tg{l:List Gr.Nd}{s:Gr.Stp}(h:Small l)(hs:Jz s): Small (Gr.stepE AP l s).2:=by
 have hnil:Small ([]:List Gr.Nd):=fun m hm=>by cases hm
 by_cases hc:AP l=0
 ·by_cases hk:1≤s.kind∧s.kind≤5
  ·rcases QF (s:=s) hc hk with ⟨_,e⟩|⟨_,e⟩
   ·rw[e];exact hnil
   ·rw[e];unfold Gr.finE;split
    ·exact hnil
    ·exact(Nq h hs).1
  ·unfold Gr.stepE;rw[if_neg (by rw[hc];decide),if_pos (by omega)];exact hnil
 ·unfold Gr.stepE;rw[if_pos hc];exact hnil
theorem Vw{l l':List Gr.Nd}(h:Small l)(hp:l'.Perm l): Small l':=fun m hm=>h m (hp.mem_iff.1 hm)
def GR(r:Int×Nat×List Gr.Nd)(w:World)(e:Ending)(w':World): Prop:=AA w w'∧((r.1≠0∧e = .returned (.tuple #[.slice none 0 0,.int .i64 (r.2.1:Int),.int .i64 r.1]))∨(r.1=0∧∃v lc l',e = .returned (.tuple #[v,.int .i64 0,.int .i64 0])∧Aa w.heap.size w' v lc∧Ah w.heap.size w' lc l'∧l'.Perm r.2.2∧(l'.Pairwise fun a b=>a.id≤b.id)∧Small l'))
def Kj(a b:Int×Nat×List Gr.Nd): Prop:=a.1=b.1∧a.2.1=b.2.1∧a.2.2.Perm b.2.2
theorem Kj.refl(a:Int×Nat×List Gr.Nd): Kj a a:=⟨rfl,rfl,List.Perm.refl _⟩
theorem Kj.trans{a b c:Int×Nat×List Gr.Nd}(h:Kj a b)(k:Kj b c): Kj a c:=⟨h.1.trans k.1,h.2.1.trans k.2.1,h.2.2.trans k.2.2⟩
theorem Yy{l l2:List Gr.Nd}{p:List Gr.Stp}{k:Nat}(hk:k<p.length)(h0:(Gr.stepE AP l p[k]).1=0)(hp:l2.Perm (Gr.stepE AP l p[k]).2): Kj (Gr.stepsE AP l (p.drop k) k) (Gr.stepsE AP l2 (p.drop (k+1)) (k+1)):=by
 rw[List.drop_eq_getElem_cons hk,Gr.stepsE,if_neg (by rw[h0];simp)];obtain⟨a,b,c⟩:=Gr.stepsE_perm Ld (p.drop (k+1)) (k+1) hp;exact⟨a.symm,b.symm,c.symm⟩
theorem QE{l:List Gr.Nd}{p:List Gr.Stp}{k:Nat}(hk:k<p.length)(h0:(Gr.stepE AP l p[k]).1≠0): Gr.stepsE AP l (p.drop k) k=((Gr.stepE AP l p[k]).1,k+1,[]):=by
 rw[List.drop_eq_getElem_cons hk,Gr.stepsE,if_pos h0]
theorem Yz{l9:List Gr.Nd}{w w':World}{e:Ending}(h:FW ((0,l9):Int×List Gr.Nd) w e w'): AA w w'∧∃v lc l',e = .returned (.tuple #[v,.int .i64 0])∧Aa w.heap.size w' v lc∧Ah w.heap.size w' lc l'∧l'.Perm l9∧l'.Pairwise fun a b=>a.id≤b.id:=by
 rcases h with ⟨g,⟨h1,-⟩|⟨-,h2⟩⟩
 ·exact absurd rfl h1
 ·exact⟨g,h2⟩
theorem A00{r:Int×List Gr.Nd}{w w':World}{e:Ending}(hr:r.1≠0)(h:FW r w e w'): e = .returned (.tuple #[.slice none 0 0,.int .i64 r.1])∧AA w w':=by
 rcases h with ⟨g,⟨-,h2⟩|⟨h1,-⟩⟩
 ·exact⟨h2,g⟩
 ·exact absurd h1 hr
theorem Oz(v vp:Value)(l:List Gr.Nd)(p:List Gr.Stp)(w:World)(hv:AV w v l)(hs:Small l)(hp:BA w vp p)(hb:AP l≠0∨p.length<1∨6<p.length): Calls Tryz.prog 78 #[v,vp] w (GR (Gr.applyE AP l p) w):=by
 have HCK:=hY fun W2 (g:AA w W2)=>BU v l W2 (hv.grew g) hs
 obtain⟨a,cap,rfl,hm,-⟩:=hv.openC;obtain⟨a2,cap2,rfl,hm2,-⟩:=hp.openC;clear hv hs hp;by_cases h0:AP l≠0
 ·have he:Gr.applyE AP l p=(10,0,[]):=if_pos h0;rw[he];obtain⟨r,hr⟩:∃r,AP l=r:=⟨_,rfl⟩;rw[hr] at HCK h0;have hne:(r != 0)=true:=by rw[bne_iff_ne];exact h0
  clear hr h0 hb he;go_enter Tryz.func78,Tryz.ntmps78
  go_wp2_with (go_at_call 26;refine(HCK.o _ gw).mono ?_;rintro e w1 ⟨rfl,R3,n3,rfl⟩)
  refine bodyPost_ret (v:=.tuple #[.slice none 0 0,.int .i64 0,.int .i64 10]) (by simp[results,Tryz.results78,go_sem]) rfl ⟨gw,.inl ⟨by decide,rfl⟩⟩
 ·have h1:=hb.resolve_left h0;have he:Gr.applyE AP l p=(11,0,[]):=by unfold Gr.applyE;rw[if_neg h0,if_pos h1]
  rw[he];have h00:AP l=0:=by simpa using h0
  rw[h00] at HCK;clear h00 h0 hb he;rcases h1 with h1|h1
  ·have h1':(p.length:Int)<1:=by omega
   go_enter Tryz.func78,Tryz.ntmps78
   go_wp2_with (go_at_call 26;refine(HCK.o _ gw).mono ?_;rintro e w1 ⟨rfl,R3,n3,rfl⟩)
   refine bodyPost_ret (v:=.tuple #[.slice none 0 0,.int .i64 0,.int .i64 11]) (by simp[results,Tryz.results78,go_sem]) rfl ⟨gw,.inl ⟨by decide,rfl⟩⟩
  ·have h1':¬((p.length:Int)<1):=by omega
   have h1'':(6:Int)<(p.length:Int):=by omega
   go_enter Tryz.func78,Tryz.ntmps78
   go_wp2_with (go_at_call 26;refine(HCK.o _ gw).mono ?_;rintro e w1 ⟨rfl,R3,n3,rfl⟩)
   refine bodyPost_ret (v:=.tuple #[.slice none 0 0,.int .i64 0,.int .i64 11]) (by simp[results,Tryz.results78,go_sem]) rfl ⟨gw,.inl ⟨by decide,rfl⟩⟩
theorem RI(v vp:Value)(l:List Gr.Nd)(p:List Gr.Stp)(w:World)(hv:AV w v l)(hs:Small l)(hp:BA w vp p)(hps:∀s∈p,Jz s)(hc:AP l=0)(h1:1≤p.length)(h6:p.length≤6): Calls Tryz.prog 78 #[v,vp] w (GR (Gr.applyE AP l p) w):=by
 have he:Gr.applyE AP l p=Gr.stepsE AP l p 0:=by unfold Gr.applyE;rw[if_neg (by rw[hc];simp),if_neg (by omega)]
 rw[he];have HCK:=hY fun W2 (g:AA w W2)=>BU v l W2 (hv.grew g) hs
 rw[hc] at HCK;have HV:=hY hv;have HS:=hY hs;have HPS:=hY hps;have HP:=hY hp;obtain⟨a,cap,rfl,hm,-⟩:=hv.openC;obtain⟨a2,cap2,rfl,hm2,-⟩:=hp.openC;clear he hc hv hs hps hp;have h1':¬((p.length:Int)<1):=by omega
 have h6':¬((6:Int)<(p.length:Int)):=by omega
 go_enter Tryz.func78,Tryz.ntmps78
 go_wp2_with (go_at_call 26;refine(HCK.o _ gw).mono ?_;rintro e w1 ⟨rfl,R3,n3,rfl⟩)
 go_loopg [0,26] p.length (fun gg s0 s26 wr=>∃(k:Nat) (lk:List Gr.Nd),k≤p.length∧p.length-k≤gg∧s26 = .int .i64 k∧Hid (AA w wr)∧Hid (AV wr s0 lk)∧Hid (Small lk)∧Hid (Kj (Gr.stepsE AP l p 0) (Gr.stepsE AP lk (p.drop k) k))∧Hid (k≠0→∃lc,Aa w.heap.size wr s0 lc∧Ah w.heap.size wr lc lk∧lk.Pairwise fun a b=>a.id≤b.id))
 case atStart=>exact⟨0,l,by omega,by omega,rfl,hY gw,hY (HV.o.grew gw),HS,hY (Kj.refl _),hY fun q=>absurd rfl q⟩
 case round =>
  obtain⟨k,lk,hk,hgg,rfl,HG,HA,HSM,HE,HO⟩:=hrel;rename World=>wa;by_cases hlt:k<p.length
  ·obtain⟨a',cap',e,-,hx⟩:=(HP.o.grew HG.o).openC;cases e;obtain⟨b,off,c,rfl,hb,hn,c0,c1,c2,c3,c4,c5,c6,c7,c8,c9,c10,c11,c12,c13,c14⟩:=hx k hlt;have HST:=hY fun W2 (g:AA wa W2)=>RO _ lk c p[k] W2 (HA.o.grew g) HSM.o (hn.grew g) (HPS.o _ (List.getElem_mem hlt))
   have HN0:=hY (QE (l:=lk) hlt);have HGO:=hY fun l2=>Yy (l:=lk) (l2:=l2) hlt
   have HSS:=hY (Tg HSM.o (HPS.o _ (List.getElem_mem hlt)));obtain⟨a9,cap9,rfl,-,-⟩:=HA.o.openC;generalize Gr.stepE AP lk p[k]=r at *;obtain⟨r1,l9⟩:=r;clear hx hn;obtain⟨kd,⟨id,kind,af,nf,cf,ap,np,cp,par,r0,q1,q2,q3,q4,q5,q6,q7⟩,rs⟩:=c;simp only at c0 c1 c2 c3 c4 c5 c6 c7 c8 c9 c10 c11 c12 c13 c14 HST;simp only at HN0 HGO HSS;by_cases hr:r1=0
   ·subst hr;have HST2:=hY fun W2 (g:AA wa W2)=>(HST.o W2 g).mono fun e w' h=>Yz h
    clear HST HN0
    go_wp2_with (go_at_call 111;((with_reducible refine Calls.mono (HST2.o _ ?_) ?_));(focus(exact gw));rintro e5 w5 ⟨hg5,v5,lc5,l5,rfl,ho5,hn5,hp5,hs5⟩;obtain⟨a5,cp5,rfl⟩:=(OwnAt.rows ho5 AZ).len;(have HG5:=hY hg5);(have HO5:=hY ho5);(have HN5:=hY hn5);(have HP5:=hY hp5);(have HS5:=hY hs5);clear hg5 ho5 hn5 hp5 hs5)
    have hw5:AA w w5:=HG.o.trans (AA.trans gw HG5.o);have hbase:w.heap.size≤(wa.alloc (.cells #[.int .i64 kd,.int .i64 id,.int .i64 kind,.slice af nf cf,.slice ap np cp,.int .i64 par,.int .i64 r0,.int .i64 q1,.int .i64 q2,.int .i64 q3,.int .i64 q4,.int .i64 q5,.int .i64 q6,.int .i64 q7,.bool rs] 66)).heap.size:=(HG.o.trans gw).below.size;have hown:=OwnAt.low HO5.o hbase;have hin:=Ah.low HN5.o hbase
    go_roundg (p.length-(k+1))
    case measure=>omega
    case rel=>exact⟨k+1,l5,by omega,by omega,by go_num,hY (hw5.trans gw),hY ((Ah.at hin hown).grew gw),hY (Vw HSS.o HP5.o),hY (HE.o.trans (HGO.o _ (by first|trivial|rfl) HP5.o)),hY fun _=>⟨lc5,OwnAt.grew hown gw,hin.grew gw,HS5.o⟩⟩
   ·have HST2:=hY fun W2 (g:AA wa W2)=>(HST.o W2 g).mono fun e w' h=>A00 (r:=(r1,l9)) hr h
    have hb2:(r1 != 0)=true:=by rw[bne_iff_ne];exact hr
    have HR:=hY hr;have hwk:IntKind.i64.wrap ((k:Int)+1)=(k:Int)+1:=IntWalk.i64_in _ (by omega);clear HST hr;simp only at HST2
    go_wp2_with (go_at_call 111;((with_reducible refine Calls.mono (HST2.o _ ?_) ?_));(focus(exact gw));rintro e5 w5 ⟨rfl,hg5⟩;(have HG5:=hY hg5);clear hg5)
    have hE:=HE.o;rw[HN0.o HR.o] at hE;exact bodyPost_ret (v:=.tuple #[.slice none 0 0,.int .i64 ((k:Int)+1),.int .i64 r1]) (by simp[results,Tryz.results78,go_sem]) rfl ⟨HG.o.trans ((AA.trans gw HG5.o).trans gw),.inl ⟨by rw[hE.1];exact HR.o,by rw[hE.1,hE.2.1];rfl⟩⟩
  ·obtain rfl:k=p.length:=by omega
   have hE:=HE.o;rw[List.drop_length,Gr.stepsE] at hE;have HE9:=hY hE;clear hE;obtain⟨lc,ho,hn,hso⟩:=HO.o (by omega);have HO9:=hY ho;have HN9:=hY hn;have HSO:=hY hso;obtain⟨a9,cap9,rfl,-,-⟩:=HA.o.openC;clear ho hn hso;go_wp2;exact bodyPost_ret (v:=.tuple #[.slice a9 lk.length cap9,.int .i64 0,.int .i64 0]) (by simp[results,Tryz.results78,go_sem]) rfl ⟨HG.o.trans gw,.inr ⟨HE9.o.1,_,lc,lk,rfl,HO9.o.grew gw,HN9.o.grew gw,HE9.o.2.2.symm,HSO.o,HSM.o⟩⟩
theorem O0(v vp:Value)(l:List Gr.Nd)(p:List Gr.Stp)(w:World)(hv:AV w v l)(hs:Small l)(hp:BA w vp p)(hps:∀s∈p,Jz s): Calls Tryz.prog 78 #[v,vp] w (GR (Gr.applyE AP l p) w):=by
 by_cases h:AP l≠0∨p.length<1∨6<p.length
 ·exact Oz v vp l p w hv hs hp h
 ·have hc:AP l=0:=Classical.byContradiction fun q=>h (.inl q)
  exact RI v vp l p w hv hs hp hps hc (by omega) (by omega)
def Zj:Nat→List Int
 | 0=>[]
 | k+1=>Zj k++[(k:Int)]
theorem XU:∀k,(Zj k).length=k
 | 0=>rfl
 | k+1=>by rw[Zj,List.length_append,XU k];rfl
theorem Rb(w:World): Calls Tryz.prog 113 #[] w fun e w'=>∃v,e = .returned v∧OwnAt w.heap.size 3 1 Cx w' v (Zj 8)∧AA w w':=by
 go_enter Tryz.func113,Tryz.ntmps113;go_wp2
 go_loopg [1,3] 8 (fun gg s1 s3 wr=>∃k:Nat,k≤8∧8-k≤gg∧s3 = .int .i64 k∧Hid (AA w wr)∧Hid (OwnAt w.heap.size 3 1 Cx wr s1 (Zj k)))
 case atStart=>exact⟨0,by omega,by omega,rfl,hY (AA.refl _),hY (OwnAt.nil _)⟩
 case round =>
  obtain⟨k,hk,hgg,rfl,HG,HO⟩:=hrel;rename World=>wa;by_cases hlt:k<8
  ·have hb:(k:Int)<8:=by omega
   have hul:=XU k
   go_wp2_with (at_builtin;go_loud (refine Am (w0:=w) rfl (.tmp 6) (.tmp 8) 40 _ _ _ _ [(k:Int)] rfl Tryz.underlying40 XN rfl (by decide) Ar QJ rfl (OwnAt.grew HO.o gw) (HG.o.trans gw) rfl (XO _ _ _ _ rfl (by simp[go_sem])) (by simp;omega) (by decide) (by simp) ?_);intro v7 W7 hA;(have HA7:=hY hA);clear hA)
   go_roundg (8-(k+1))
   case measure=>omega
   case rel=>exact⟨k+1,by omega,by omega,by go_num,hY HA7.o.1,hY HA7.o.2.1⟩
  ·obtain rfl:k=8:=by omega
   have hb:¬((8:Int)<8):=by omega
   go_wp2;go_ret;exact⟨_,rfl,HO.o.grew gw,HG.o.trans gw⟩
def PG(m:List Tab.En)(s:Gr.Stp): List Tab.En:=if s.kind=1∧s.reset=true∨s.kind=3∨s.kind=2 then m.filter (fun x=> !Jj s.nd.id (Zj 8) x) else m
theorem XV{m:List Tab.En}(h:GI m)(s:Gr.Stp): GI (PG m s):=by
 unfold PG;split
 ·exact h.filter _
 ·exact h
theorem UF{α:Type}{k:Nat}{enc:α→List Value}{A:World}{R:Array Obj}{n:Nat}{v:Value}{l:List α}(h:AX k enc (A.drew.more R n) v l): AX k enc (A.more R n) v l:=by
 obtain⟨a,cap,rfl,hm,hx⟩:=h;exact⟨a,cap,rfl,hm,hx⟩
def F7(w0 W:World)(t b n:Nat)(m:List Tab.En)(e:Ending)(W':World): Prop:=∃r:Int,e = .returned (.int .i64 r)∧Au W' t b n m∧AA w0 W'∧A7 b W W'
theorem F7.same{w0 W W':World}{t b n:Nat}{m:List Tab.En}(hT:Au W t b n m)(hg:AA w0 W)(g:AA W W')(r:Int): F7 w0 W t b n m (.returned (.int .i64 r)) W':=⟨r,rfl,hT.grew g,hg.trans g,A7.ofGrew g⟩
theorem A1H(w0 W:World)(t b n:Nat)(m:List Tab.En)(hT:Au W t b n m)(hu:GI m)(hg:AA w0 W)(hb:w0.heap.size≤b)(kd id kind:Int)(af:Option Addr)(nf cf:Nat)(ap:Option Addr)(np cp:Nat)(par r0 r1 r2 r3 r4 r5 r6 r7:Int)(rs:Bool)(h:kd<1∨5<kd∨kd=1∧rs=false∨kd=4∨kd=5):
  Calls Tryz.prog 79 #[.pointer (some ⟨t,0,none⟩),.agg #[.int .i64 kd,.int .i64 id,.int .i64 kind,.slice af nf cf,.slice ap np cp,.int .i64 par,.int .i64 r0,.int .i64 r1,.int .i64 r2,.int .i64 r3,.int .i64 r4,.int .i64 r5,.int .i64 r6,.int .i64 r7,.bool rs]] W (F7 w0 W t b n m):=by
 have HT:=hY hT;have HG:=hY hg;clear hT hg hu hb;rcases h with h|h|⟨rfl,rfl⟩|rfl|rfl
 ·go_enter Tryz.func79,Tryz.ntmps79;go_wp2;go_ret;exact F7.same HT.o HG.o gw _
 ·have h1:¬(kd<1):=by omega
  go_enter Tryz.func79,Tryz.ntmps79;go_wp2;go_ret;exact F7.same HT.o HG.o gw _
 all_goals
  go_enter Tryz.func79,Tryz.ntmps79;go_wp2;go_ret;exact F7.same HT.o HG.o gw _
theorem ZF(w0 W:World)(t b n:Nat)(m:List Tab.En)(hT:Au W t b n m)(hu:GI m)(hg:AA w0 W)(hb:w0.heap.size≤b)(kd id kind:Int)(af:Option Addr)(nf cf:Nat)(ap:Option Addr)(np cp:Nat)(par r0 r1 r2 r3 r4 r5 r6 r7:Int)(rs:Bool)(h:kd=1∧rs=true∨kd=2∨kd=3):
  Calls Tryz.prog 79 #[.pointer (some ⟨t,0,none⟩),.agg #[.int .i64 kd,.int .i64 id,.int .i64 kind,.slice af nf cf,.slice ap np cp,.int .i64 par,.int .i64 r0,.int .i64 r1,.int .i64 r2,.int .i64 r3,.int .i64 r4,.int .i64 r5,.int .i64 r6,.int .i64 r7,.bool rs]] W (F7 w0 W t b n (m.filter fun x=> !Jj id (Zj 8) x)):=by
 have HD:=hY fun W2 (g:AA W W2) vg hgs=>SE w0 W2 t b n m (hT.grew g) hu (hg.trans g) hb id (Zj 8) vg hgs
 have HAL:=hY fun W2=>Rb W2
 have HG:=hY hg;clear hT hg hu hb;rcases h with ⟨rfl,rfl⟩|rfl|rfl
 all_goals
  go_enter Tryz.func79,Tryz.ntmps79
  go_upto_region 6 with fail
  refine wp_region_noPanic ?_
  go_region_law (first
   | (go_simp;go_at_call 113;refine(HAL.o _).mono ?_;rintro e1 w1 ⟨v1,rfl,ho1,R1,n1,rfl⟩;obtain⟨av,cv,rfl⟩:=(OwnAt.rows ho1 Ar).len;(have HO1:=hY (OwnAt.rows ho1 Ar));clear ho1)
   | (go_simp;go_at_call 112;((with_reducible refine Calls.mono (HD.o _ ?_ _ ?_) ?_));(focus(exact gw));(focus(first|exact UF HO1.o|exact HO1.o.grew gw));rintro e2 w2 ⟨rfl,hT2,hg2,hk2⟩;(have HT2:=hY hT2);(have HG2:=hY hg2);(have HK2:=hY hk2);clear hT2 hg2 hk2))
  all_goals
   refine NoPanic.normal ?_;go_wp2;go_ret;exact⟨_,rfl,HT2.o,HG2.o,(A7.ofGrew gw).trans HK2.o⟩
theorem PH(w0 W:World)(t b n:Nat)(m:List Tab.En)(hT:Au W t b n m)(hu:GI m)(hg:AA w0 W)(hb:w0.heap.size≤b)(c:Bw)(s:Gr.Stp)(hst:Ai W c s): Calls Tryz.prog 79 #[.pointer (some ⟨t,0,none⟩),.agg #[.int .i64 c.kind,.int .i64 c.c.id,.int .i64 c.c.kind,.slice c.c.af c.c.nf c.c.cf,.slice c.c.ap c.c.np c.c.cp,.int .i64 c.c.par,.int .i64 c.c.r0,.int .i64 c.c.r1,.int .i64 c.c.r2,.int .i64 c.c.r3,.int .i64 c.c.r4,.int .i64 c.c.r5,.int .i64 c.c.r6,.int .i64 c.c.r7,.bool c.reset]] W (F7 w0 W t b n (PG m s)):=by
 have hk:=hst.kind;have hr:=hst.reset;have hi:=hst.nd.id;obtain⟨kd,⟨id,kind,af,nf,cf,ap,np,cp,par,r0,r1,r2,r3,r4,r5,r6,r7⟩,rs⟩:=c;simp only at hk hr hi;unfold PG;rw[hk,hr,hi];by_cases h:kd=1∧rs=true∨kd=3∨kd=2
 ·rw[if_pos h];exact ZF w0 W t b n m hT hu hg hb kd id kind af nf cf ap np cp par r0 r1 r2 r3 r4 r5 r6 r7 rs (by rcases h with h|h|h<;>simp[h])
 ·rw[if_neg h];refine A1H w0 W t b n m hT hu hg hb kd id kind af nf cf ap np cp par r0 r1 r2 r3 r4 r5 r6 r7 rs ?_;simp only[not_or,not_and,Bool.not_eq_true] at h;by_cases h1:kd=1
  ·exact .inr (.inr (.inl ⟨h1,h.1 h1⟩))
  ·omega
def Gc(m:List Tab.En)(p:List Gr.Stp): List Tab.En:=p.foldl PG m
theorem ZG{m:List Tab.En}{p:List Gr.Stp}{k:Nat}(hk:k<p.length): Gc m (p.take (k+1))=PG (Gc m (p.take k)) p[k]:=by
 unfold Gc;rw[List.take_succ_eq_append_getElem hk,List.foldl_append];rfl
theorem Rc{m:List Tab.En}(h:GI m): ∀p:List Gr.Stp,GI (Gc m p)
 | []=>h
 |s::p=>by
  unfold Gc;rw[List.foldl_cons];exact Rc (XV h s) p
def Lh(r:Int×Nat×List Gr.Nd)(w0 W:World)(t b n:Nat)(m:List Tab.En)(p:List Gr.Stp)(e:Ending)(W':World): Prop:=AA w0 W'∧A7 b W W'∧((r.1≠0∧e = .returned (.tuple #[.slice none 0 0,.int .i64 (r.2.1:Int),.int .i64 r.1]))∨(r.1=0∧Au W' t b n (Gc m p)∧∃v lc l',e = .returned (.tuple #[v,.int .i64 0,.int .i64 0])∧Aa W.heap.size W' v lc∧Ah W.heap.size W' lc l'∧l'.Perm r.2.2∧(l'.Pairwise fun a b=>a.id≤b.id)∧Small l'))
theorem WI{l9:List Gr.Nd}{k:Nat}{w w':World}{e:Ending}(h:GR ((0,k,l9):Int×Nat×List Gr.Nd) w e w'): AA w w'∧∃v lc l',e = .returned (.tuple #[v,.int .i64 0,.int .i64 0])∧Aa w.heap.size w' v lc∧Ah w.heap.size w' lc l'∧l'.Perm l9∧(l'.Pairwise fun a b=>a.id≤b.id)∧Small l':=by
 rcases h with ⟨g,⟨h1,-⟩|⟨-,h2⟩⟩
 ·exact absurd rfl h1
 ·exact⟨g,h2⟩
theorem ZH{r:Int×Nat×List Gr.Nd}{w w':World}{e:Ending}(hr:r.1≠0)(h:GR r w e w'): e = .returned (.tuple #[.slice none 0 0,.int .i64 (r.2.1:Int),.int .i64 r.1])∧AA w w':=by
 rcases h with ⟨g,⟨-,h2⟩|⟨h1,-⟩⟩
 ·exact⟨h2,g⟩
 ·exact absurd h1 hr
theorem Ah.keepB{base b:Nat}{w w':World}{lc:List BM}{l:List Gr.Nd}{v:Value}(h:Ah base w lc l)(ho:Aa base w v lc)(hk:A7 b w w')(hb:∀(cs:Array Value) (t:TypeId),w.heap[b]? ≠ some (.cells cs t)): Ah base w' lc l∧Aa base w' v lc:=by
 have hq:∀(q:Nat) (cs:Array Value) (t:TypeId),w.heap[q]? = some (.cells cs t)→w'.heap[q]? = w.heap[q]? :=fun q cs t hc=>hk.2 q (AB hc) fun e=>hb cs t (e▸hc)
 refine⟨?_,?_⟩
 ·refine BL.mono (fun c n h3=>?_) h;obtain⟨h1,h2⟩:=h3;have h3:Ab base w' c n:=h2.toN fun q cs t hc _ _=>hq q cs t hc
  exact⟨h3.is h1,h3⟩
 ·refine OwnAt.same ho fun q hq2=>?_
  obtain⟨_,cs,hc⟩:=OwnAt.block ho hq2;exact hq q cs _ hc
theorem OC(w0 W:World)(t b n:Nat)(m:List Tab.En)(hT:Au W t b n m)(hu:GI m)(hg:AA w0 W)(hb:w0.heap.size≤b)(v vp:Value)(l:List Gr.Nd)(p:List Gr.Stp)(hv:AV W v l)(hs:Small l)(hp:BA w0 vp p)(hps:∀s∈p,Jz s):
  Calls Tryz.prog 39 #[.pointer (some ⟨t,0,none⟩),v,vp] W (Lh (Gr.applyE AP l p) w0 W t b n m p):=by
 have HAP:=hY fun W2 (g:AA W W2)=>O0 v vp l p W2 (hv.grew g) hs (hp.grew (hg.trans g)) hps
 have HT:=hY hT;have HU:=hY hu;have HG:=hY hg;have HB:=hY hb;have HP:=hY hp;obtain⟨a,cap,rfl,hm,-⟩:=hv.openC;obtain⟨a2,cap2,rfl,hm2,-⟩:=hp.openC;clear hT hu hg hb hv hs hp hps;generalize Gr.applyE AP l p=r at *;obtain⟨r1,k1,l9⟩:=r;by_cases hr:r1=0
 case neg =>
  have HAP2:=hY fun W2 (g:AA W W2)=>(HAP.o W2 g).mono fun e w' h=>ZH (r:=(r1,k1,l9)) hr h
  simp only at HAP2;have hb2:(r1 != 0)=true:=by rw[bne_iff_ne];exact hr
  have HR:=hY hr;clear HAP hr;go_enter Tryz.func39,Tryz.ntmps39
  go_wp2_with (go_at_call 78;((with_reducible refine Calls.mono (HAP2.o _ ?_) ?_));(focus(exact gw));rintro e5 w5 ⟨rfl,hg5⟩;(have HG5:=hY hg5);clear hg5)
  exact bodyPost_ret (v:=.tuple #[.slice none 0 0,.int .i64 (k1:Int),.int .i64 r1]) (by simp[results,Tryz.results39,go_sem]) rfl ⟨HG.o.trans ((AA.trans gw HG5.o).trans gw),A7.ofGrew ((AA.trans gw HG5.o).trans gw),.inl ⟨HR.o,rfl⟩⟩
 subst hr;have HAP2:=hY fun W2 (g:AA W W2)=>(HAP.o W2 g).mono fun e w' h=>WI h
 clear HAP;go_enter Tryz.func39,Tryz.ntmps39
 go_wp2_with (go_at_call 78;((with_reducible refine Calls.mono (HAP2.o _ ?_) ?_));(focus(exact gw));rintro e5 w5 ⟨hg5,v5,lc5,l5,rfl,ho5,hn5,hp5,hs5,hsm5⟩;obtain⟨a5,cp5,rfl⟩:=(OwnAt.rows ho5 AZ).len;(have HG5:=hY hg5);(have HO5:=hY ho5);(have HN5:=hY hn5);(have HP5:=hY hp5);(have HS5:=hY hs5);(have HSM5:=hY hsm5);clear hg5 ho5 hn5 hp5 hs5 hsm5)
 have HW5:Hid (AA W w5):=hY (AA.trans gw HG5.o);have hbase:W.heap.size≤W.heap.size:=Nat.le_refl _;have HT5:=hY (HT.o.grew HW5.o)
 go_loopg [29] p.length (fun gg s29 wr=>∃k:Nat,k≤p.length∧p.length-k≤gg∧s29 = .int .i64 k∧Hid (Au wr t b n (Gc m (p.take k)))∧Hid (AA w0 wr)∧Hid (A7 b w5 wr))
 case atStart=>exact⟨0,by omega,by omega,rfl,hY (HT5.o.grew gw),hY ((HG.o.trans HW5.o).trans gw),hY (A7.ofGrew gw)⟩
 case round =>
  obtain⟨k,hk,hgg,rfl,HTK,HGK,HKK⟩:=hrel;rename World=>wa;by_cases hlt:k<p.length
  ·obtain⟨a',cap',e,-,hx⟩:=(HP.o.grew HGK.o).openC;cases e;obtain⟨bq,off,c,rfl,hbq,hn,c0,c1,c2,c3,c4,c5,c6,c7,c8,c9,c10,c11,c12,c13,c14⟩:=hx k hlt;have HRS:=hY fun W2 (g:AA wa W2)=>PH w0 W2 t b n _ (HTK.o.grew g) (Rc HU.o _) (HGK.o.trans g) HB.o c p[k] (hn.grew g)
   have HRL:=hY (ZG (m:=m) hlt);clear hx hn;obtain⟨kd,⟨id,kind,af,nf,cf,ap,np,cp,par,r0,q1,q2,q3,q4,q5,q6,q7⟩,rs⟩:=c;simp only at c0 c1 c2 c3 c4 c5 c6 c7 c8 c9 c10 c11 c12 c13 c14 HRS
   go_wp2_with (go_at_call 79;((with_reducible refine Calls.mono (HRS.o _ ?_) ?_));(focus(exact gw));rintro e6 w6 ⟨r6,rfl,hT6,hg6,hk6⟩;(have HT6:=hY hT6);(have HG6:=hY hg6);(have HK6:=hY hk6);clear hT6 hg6 hk6)
   go_roundg (p.length-(k+1))
   case measure=>omega
   case rel=>exact⟨k+1,by omega,by omega,by go_num,hY (by rw[HRL.o];exact HT6.o.grew gw),hY (HG6.o.trans gw),hY ((HKK.o.trans ((A7.ofGrew gw).trans HK6.o)).trans (A7.ofGrew gw))⟩
  ·obtain rfl:k=p.length:=by omega
   have hT9:=HTK.o;rw[List.take_length] at hT9;have HT9:=hY hT9;obtain⟨hn9,ho9⟩:=Ah.keepB HN5.o HO5.o HKK.o (fun cs ty q=>TabAt.nocells HT5.o.2 _ _ _ q);clear hT9;have hs5:w5.heap.size≤wa.heap.size:=HKK.o.1;have HN9:=hY hn9;have HO9:=hY ho9;clear hn9 ho9;go_wp2;refine bodyPost_ret (v:=.tuple #[.slice a5 lc5.length cp5,.int .i64 0,.int .i64 0]) (by simp[results,Tryz.results39,go_sem]) rfl ⟨HGK.o.trans gw,((A7.ofGrew HW5.o).trans HKK.o).trans (A7.ofGrew gw),.inr ⟨rfl,HT9.o.grew gw,_,lc5,l5,rfl,OwnAt.grew HO9.o gw,Ah.grew HN9.o gw,HP5.o,HS5.o,HSM5.o⟩⟩
end Go.Proofs.YtgebkpgilgppgaaGreat
