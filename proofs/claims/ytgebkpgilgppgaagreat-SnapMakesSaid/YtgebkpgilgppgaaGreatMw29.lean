import Derived.Test.YtgebkpgilgppgaaGreatMw20
set_option linter.unusedSimpArgs false
set_option linter.unusedVariables false
set_option maxRecDepth 100000
set_option maxHeartbeats 64000000
namespace Go.Proofs.YtgebkpgilgppgaaGreat
open Go.RowKit Ga
theorem A2U{n:Nat}{k:Bool}(h:n=0↔k=false)(hk:k=true): (0:Int)<(n:Int):=by
 rcases Nat.eq_zero_or_pos n with q|q
 ·rw[h.1 q] at hk;cases hk
 ·omega
theorem A4s(w0 W:World)(B b n cap i:Nat)(lc:List BM)(l:List Gr.Nd)(st:Bw)(s:Gr.Stp)(h:Cu w0 W B (.slice (some ⟨b,0,none⟩) n cap) lc l st s (i:Int))(hi:i<l.length)(hl:l.length≤100)(hkd:s.kind=3): Calls Tryz.prog 140 #[.pointer (some ⟨B,0,none⟩)] W (Ip w0 B st s (i:Int) (Kk l i l[i] s) W):=by
 have hlen:=BL.len h.inn;have hic:i<lc.length:=by omega
 have hsk:=h.stp.kind;obtain⟨c,hc⟩:∃c,lc[i]? = some c:=⟨_,List.getElem?_eq_getElem hic⟩;obtain⟨hni,hno⟩:=BL.get h.inn i c l[i] hc (List.getElem?_eq_getElem hi);have hnk:=hni.kind;have hnid:=hni.id;have H:=hY h;have HC:=hY hc;have HNI:=hY hni;have HNO:=hY hno;obtain⟨hnl,hbb,hlc2,hcm,cur,hcur,_,_⟩:=OwnAt.cells h.own;have hni2:(i:Int)<(n:Int):=by omega
 have hi0:¬((i:Int)<0):=by omega
 have pBn:∀q,Ad B (W.drewN q):=fun q=>Ad.mk (AB h.blk)
 have pbn:∀q,Ad b (W.drewN q):=fun q=>Ad.mk (AB hcur)
 have hwr:IntKind.i64.wrap ((i:Int)+1)=(i:Int)+1:=IntWalk.i64_in _ (by omega);have pb:=Ad.mk (AB hcur);have HCUR:=hY hcur;have HBB:=hY hbb;have HNL:Hid (n=lc.length∧i<lc.length∧lc.length≤100∧lc.length=l.length):=hY ⟨hnl,hic,by omega,hlen⟩;have k0:=Av (j:=0) h.own hc (by decide);have k1:=Av (j:=1) h.own hc (by decide);simp[Ae] at k0 k1;have x0:=cell_of (o:=0) h.blk;have x1:=cell_of (o:=1) h.blk;have x16:=cell_of (o:=16) h.blk;have pB:=Ad.mk (AB h.blk);obtain⟨kd,⟨id,kind,af,nf,cf,ap,np,cp,par,r0,r1,r2,r3,r4,r5,r6,r7⟩,rs⟩:=st;simp[RS,CS] at x0 x1 x16;simp only at hsk;rw[hsk] at hkd;subst hkd;have he:Kk l i l[i] s=if l[i].kind=0∨Io l l[i].id=true then (11,[]) else (0,l.take i++l.drop (i+1)):=by unfold Kk;rw[if_neg (by omega),if_pos hsk]
 rw[he];clear he;by_cases h2:l[i].kind=0
 ·rw[if_pos (.inl h2)];have hne:(c.kind==0)=true:=by rw[←hnk,h2];rfl
  clear h hlen hic hc hni hno hcur hbb hnl hlc2 hcm h2 hnk hnid;go_enter Tryz.func140,Tryz.ntmps140
  go_upto_region 3 with fail
  go_quiet (fail)
  go_upto_region 11 with fail
  go_quiet (fail)
  go_wp2;go_ret;exact⟨rfl,fun q=>absurd q (by decide),H.o.g.trans gw⟩
 ·have hne:(c.kind==0)=false:=by rw[←hnk];simpa using h2
  have HKI:=hY fun W2 (g:AA W W2)=>RN _ l c.id W2 ((Ah.at h.inn h.own).grew g) (by omega)
  cases hk3:Io l l[i].id
  case true =>
   rw[if_pos (.inr rfl)];rw[hnid] at hk3;have HK3:=hY hk3;clear h hlen hic hc hni hno hcur hbb hnl hlc2 hcm h2 hnk hnid hk3;go_enter Tryz.func140,Tryz.ntmps140
   go_upto_region 3 with fail
   go_quiet (fail)
   go_upto_region 11 with fail
   go_cut [61] (fun s61 wx=>s61 = .bool true∧AA W wx)
   case first =>
    clear HNI HNO HC HCUR HBB HNL hwr x1 x16 H hi hl hi0 hni2
    go_region_held3 (fun w'=>w'.cell? ⟨B,0,none⟩=some (.slice (some ⟨b,0,none⟩) n cap)∧w'.cell? ⟨b,i*13,none⟩=some (.int .i64 c.id)∧w'.cell? ⟨b,i*13+1,none⟩=some (.int .i64 c.kind)) ((refine⟨?_,?_,?_⟩<;>simp[go_sem, *])) (first
     | (go_simp;go_at_call 161;refine(HKI.o _ gw).mono ?_;rintro e9 w9 ⟨a9,n9,c9,rfl,h9,hn9,R9,N9,rfl⟩;(have hpos:=A2U h9 HK3.o);clear h9))
    all_goals
     go_wp2_with fail
     go_meet
     exact⟨by first|rfl|exact congrArg Value.bool (decide_eq_true (by omega)),gw⟩
   obtain⟨rfl,hg⟩:=hcut;have HGC:=hY hg;clear hg;go_wp2;go_ret;exact⟨rfl,fun q=>absurd q (by decide),(H.o.g.trans HGC.o).trans gw⟩
  case false =>
   rw[if_neg (fun q=>q.elim h2 (fun q=>by cases q))];rw[hnid] at hk3;have HK3:=hY hk3;obtain⟨m,rfl⟩:∃m,n=m+1:=⟨n-1,by omega⟩;have hde:∀W2,AA W W2→Calls Tryz.prog 162 #[.slice (some ⟨b,0,none⟩) (m+1) cap,.int .i64 (i:Int),.int .i64 ((i:Int)+1)] W2 (XK w0 W2 b m cap (lc.take i++lc.drop (i+1))):=fun W2 g=>Vy w0 W2 b cap m i (i+1) rfl lc (h.g.trans g) (h.own.grew g) (by omega) (by omega)
   have HDE:=hY hde;clear h hlen hic hc hni hno hcur hbb hnl hlc2 hcm h2 hnk hnid hk3 hde;go_enter Tryz.func140,Tryz.ntmps140
   go_upto_region 3 with fail
   go_quiet (fail)
   go_upto_region 11 with fail
   go_cut [61] (fun s61 wx=>s61 = .bool false∧AA W wx)
   case first =>
    clear HNI HNO HC HCUR HBB HNL hwr x1 x16 H hi hl hi0 hni2 HDE
    go_region_held3 (fun w'=>w'.cell? ⟨B,0,none⟩=some (.slice (some ⟨b,0,none⟩) (m+1) cap)∧w'.cell? ⟨b,i*13,none⟩=some (.int .i64 c.id)∧w'.cell? ⟨b,i*13+1,none⟩=some (.int .i64 c.kind)) ((refine⟨?_,?_,?_⟩<;>simp[go_sem, *])) (first
     | (go_simp;go_at_call 161;refine(HKI.o _ gw).mono ?_;rintro e9 w9 ⟨a9,n9,c9,rfl,h9,hn9,R9,N9,rfl⟩;obtain rfl:n9=0:=h9.2 HK3.o;clear h9))
    all_goals
     go_wp2_with fail
     go_meet
     exact⟨by first|rfl|exact congrArg Value.bool (decide_eq_true (by omega)),gw⟩
   obtain⟨rfl,hg⟩:=hcut;have HGC:=hY hg;have hbc:=AC hg H.o.blk;have x0':=cell_of (o:=0) hbc;have x16':=cell_of (o:=16) hbc;have pB':=Ad.mk (AB hbc);simp[RS,CS] at x0' x16';clear hg x0 x1 x16 pB pb hbc
   go_upto_region 13 with fail
   refine wp_region_noPanic ?_
   go_region_law (go_simp;go_at_call 162;((with_reducible refine Calls.mono (HDE.o _ ?_) ?_));(focus(exact HGC.o.trans gw));rintro e9 w9 ⟨rfl,ho9,hg9,hk9⟩;obtain⟨hb9,hw9⟩:=(H.o.grew (HGC.o.trans gw)).del hk9 hg9 ho9;(have HW9:=hY hw9);(have cb9:=cell_of (o:=0) hb9);(have fb9:=AJ (o:=0) hb9);(have pb9:=Ad.mk (AB hb9));simp[RS] at cb9;clear hb9 hw9 ho9 hg9 hk9)
   all_goals
    refine NoPanic.normal ?_;go_wp2;go_ret;exact⟨rfl,fun _=>⟨_,_,Cu.grew HW9.o gw⟩,HW9.o.g.trans gw⟩
end Go.Proofs.YtgebkpgilgppgaaGreat
