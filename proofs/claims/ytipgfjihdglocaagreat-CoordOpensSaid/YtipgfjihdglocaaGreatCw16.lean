import Derived.Test.YtipgfjihdglocaaGreatCw12
import Derived.Test.YtipgfjihdglocaaGreatCw13
import Derived.Test.YtipgfjihdglocaaGreatCw5
import Derived.Test.YtipgfjihdglocaaGreatCw14
import Derived.ScopeJumps
import Derived.Laws.EntriesVeiled
import Derived.Scope
import Derived.Test.YtipgfjihdglocaaGreatCw11
import Derived.Test.YtipgfjihdglocaaGreatCw7
import Derived.Test.YtipgfjihdglocaaGreatCw10
import Derived.Test.YtipgfjihdglocaaGreatCw3
set_option linter.unusedSimpArgs false
set_option linter.unusedVariables false
set_option maxRecDepth 100000
set_option maxHeartbeats 64000000
namespace Go.Proofs.YtipgfjihdglocaaGreat
open Go.RowKit Ga
def badT(par t:Int): Bool:=decide (t<0)||decide (par≤t)
theorem route1_pred(par:Int)(B:Nat)(w:World)(hB:Pre B w)(hc:w.cell? ⟨B,4,none⟩=some (.int .i64 par)): PredI 132 #[.pointer (some ⟨B,0,none⟩)] (badT par) w:=by
 intro W x g;obtain⟨R,N,rfl⟩:=g;show Calls Tryz.prog 132 #[.int .i64 x,.pointer (some ⟨B,0,none⟩)] _ _;by_cases h0:x<0
 ·have hb:badT par x=true:=by unfold badT;rw[decide_eq_true h0];rfl
  rw[hb];clear hb;go_enter Tryz.func132,Tryz.ntmps132;go_wp2;go_ret;refine⟨rfl,?_⟩;exact gw
 ·have h0':decide (x<0)=false:=decide_eq_false h0;have hb:badT par x=decide (par≤x):=by unfold badT;rw[h0'];rfl
  rw[hb];clear hb;go_enter Tryz.func132,Tryz.ntmps132;go_wp2;go_ret;exact⟨rfl,gw⟩
theorem route_rows(w:World)(t:TypeId)(id kind par r0 r1 r2 r3 r4 r5 r6 r7:Int)(vf vp:Value): IntsAt (w.alloc (.cells #[.int .i64 id,.int .i64 kind,vf,vp,.int .i64 par,.int .i64 r0,.int .i64 r1,.int .i64 r2,.int .i64 r3,.int .i64 r4,.int .i64 r5,.int .i64 r6,.int .i64 r7] t)) (.slice (some ⟨w.heap.size,5,none⟩) 8 8) [r0,r1,r2,r3,r4,r5,r6,r7]:=by
 refine⟨_,8,rfl,(by unfold maxLen;simp),fun _=>⟨_,_,rfl,fun i x hi j u hu=>?_⟩⟩;rw[World.cell?_alloc_new]
 match j,hu with
 |0,hu =>
  simp at hu;subst hu
  match i,hi with
  | 0,hi=>simp at hi;subst hi;rfl
  | 1,hi=>simp at hi;subst hi;rfl
  | 2,hi=>simp at hi;subst hi;rfl
  | 3,hi=>simp at hi;subst hi;rfl
  | 4,hi=>simp at hi;subst hi;rfl
  | 5,hi=>simp at hi;subst hi;rfl
  | 6,hi=>simp at hi;subst hi;rfl
  | 7,hi=>simp at hi;subst hi;rfl
  | i+8,hi=>simp at hi
 | j+1,hu=>simp at hu
def routeB(n:Gr.Nd): Bool:=decide (1≤n.par)&&(decide (n.par≤3) && !n.route.any (badT n.par))
theorem enters132:∀args w,(callFunc 132 args).run Tryz.prog w = .ok (.enter 132 args) w:=enters_of Tryz.func132 (by kernel_rfl) rfl
theorem route_any(c:NdC)(n:Gr.Nd)(w:World)(hn:NodeIs w c n): Calls Tryz.prog 78 #[.agg #[.int .i64 c.id,.int .i64 c.kind,.slice c.af c.nf c.cf,.slice c.ap c.np c.cp,.int .i64 c.par,.int .i64 c.r0,.int .i64 c.r1,.int .i64 c.r2,.int .i64 c.r3,.int .i64 c.r4,.int .i64 c.r5,.int .i64 c.r6,.int .i64 c.r7]] w (Gives (.bool (routeB n)) w):=by
 obtain⟨id,kind,af,cf,ap,cp,par,r0,r1,r2,r3,r4,r5,r6,r7,rfl⟩:=hn.lit;have hpar:=hn.par;have hrt:=hn.route;simp only at hpar hrt;have hb:routeB n=(decide (1≤par)&&(decide (par≤3) && !([r0,r1,r2,r3,r4,r5,r6,r7]:List Int).any (badT par))):=by unfold routeB;rw[hpar,hrt]
 rw[hb];clear hb hpar hrt hn;show Calls Tryz.prog 78 #[.agg #[.int .i64 id,.int .i64 kind,.slice af n.frm.length cf,.slice ap n.prog.length cp,.int .i64 par,.int .i64 r0,.int .i64 r1,.int .i64 r2,.int .i64 r3,.int .i64 r4,.int .i64 r5,.int .i64 r6,.int .i64 r7]] w _;by_cases h1:1≤par
 ·have h1':decide (1≤par)=true:=decide_eq_true h1;by_cases h3:par≤3
  ·have h3':decide (par≤3)=true:=decide_eq_true h3;rw[h1',h3',Bool.true_and,Bool.true_and];have hI:=fun(w1:World) (hc:w1.cell? ⟨w.heap.size,4,none⟩=some (.int .i64 par)) (hv:IntsAt w1 (.slice (some ⟨w.heap.size,5,none⟩) 8 8) [r0,r1,r2,r3,r4,r5,r6,r7])=>containsFn_any _ _ 132 #[.pointer (some ⟨w.heap.size,0,none⟩)] (badT par) w1 hv enters132 (route1_pred par w.heap.size w1 (Pre.ofCell hc) hc)
   have HI:=hY hI;have HR:=hY (fun t vf vp=>route_rows w t id kind par r0 r1 r2 r3 r4 r5 r6 r7 vf vp);clear hI;generalize ([r0,r1,r2,r3,r4,r5,r6,r7]:List Int).any (badT par)=q at *;clear h1' h3';go_enter Tryz.func78,Tryz.ntmps78
   go_wp2_with (go_at_call 79;go_loud (refine(HI.o _ (by simp[go_sem]) (HR.o _ _ _)).mono ?_;rintro e w1 ⟨rfl,R3,n3,rfl⟩))
   go_ret;refine⟨rfl,?_⟩;exact gw
  ·have h3':decide (par≤3)=false:=decide_eq_false h3;rw[h1',h3',Bool.true_and,Bool.false_and];clear h1' h3';go_enter Tryz.func78,Tryz.ntmps78;go_wp2;go_ret;refine⟨rfl,?_⟩;exact gw
 ·have h1':decide (1≤par)=false:=decide_eq_false h1;rw[h1',Bool.false_and];clear h1';go_enter Tryz.func78,Tryz.ntmps78;go_wp2;go_ret;refine⟨rfl,?_⟩;exact gw
def kindB(n:Gr.Nd): Bool :=
 if n.kind=0 then n.id==0&&(decide (n.frm.length=0)&&decide (n.prog.length=0))
 else if n.kind=1 then n.id != 0&&(decide (n.frm.length=1)&&Vm.safe n.prog)
 else if n.kind=2 then n.id != 0&&(decide (1≤n.frm.length)&&(decide (n.frm.length≤3)&&(decide n.frm.Nodup&&decide (n.prog.length=0))))
 else false
theorem kind_any(c:NdC)(n:Gr.Nd)(w:World)(hn:NodeIs w c n)(hf:n.frm.length≤1000): Calls Tryz.prog 77 #[.agg #[.int .i64 c.id,.int .i64 c.kind,.slice c.af c.nf c.cf,.slice c.ap c.np c.cp,.int .i64 c.par,.int .i64 c.r0,.int .i64 c.r1,.int .i64 c.r2,.int .i64 c.r3,.int .i64 c.r4,.int .i64 c.r5,.int .i64 c.r6,.int .i64 c.r7]] w (Gives (.bool (kindB n)) w):=by
 have HS:=hY fun W (g:Grew w W)=>safe_any c.vp n.prog W (hn.p.grew g)
 have HU:=hY fun W (g:Grew w W)=>unlike_any c.vf n.frm W (hn.f.grew g) hf
 obtain⟨id,kind,af,cf,ap,cp,par,r0,r1,r2,r3,r4,r5,r6,r7,rfl⟩:=hn.lit;have hid:=hn.id;have hk:=hn.kind;simp only at hid hk HS HU;have hb:kindB n=if kind=0 then id==0&&(decide (n.frm.length=0)&&decide (n.prog.length=0)) else if kind=1 then id != 0&&(decide (n.frm.length=1)&&Vm.safe n.prog) else if kind=2 then id != 0&&(decide (1≤n.frm.length)&&(decide (n.frm.length≤3)&&(decide n.frm.Nodup&&decide (n.prog.length=0)))) else false:=by unfold kindB;rw[hid,hk]
 rw[hb];clear hb hid hk hn;show Calls Tryz.prog 77 #[.agg #[.int .i64 id,.int .i64 kind,.slice af n.frm.length cf,.slice ap n.prog.length cp,.int .i64 par,.int .i64 r0,.int .i64 r1,.int .i64 r2,.int .i64 r3,.int .i64 r4,.int .i64 r5,.int .i64 r6,.int .i64 r7]] w _;generalize Vm.safe n.prog=sf at *;generalize decide n.frm.Nodup=nd at *;generalize n.frm.length=fl at *;generalize n.prog.length=pl at *;by_cases k0:kind=0
 ·subst k0;rw[if_pos rfl];by_cases i0:id=0
  ·subst i0;by_cases f0:fl=0
   ·subst f0;by_cases p0:pl=0
    ·subst p0;go_enter Tryz.func77,Tryz.ntmps77;go_wp2;go_ret;refine⟨rfl,?_⟩;exact gw
    ·have p0':((pl:Int)==0)=false:=by simpa using p0
     rw[decide_eq_false p0];clear p0;go_enter Tryz.func77,Tryz.ntmps77;go_wp2;go_ret;refine⟨rfl,?_⟩;exact gw
   ·have f0':((fl:Int)==0)=false:=by simpa using f0
    rw[decide_eq_false f0];clear f0;go_enter Tryz.func77,Tryz.ntmps77;go_wp2;go_ret;refine⟨rfl,?_⟩;exact gw
  ·have i0':(id==0)=false:=by simpa using i0
   rw[i0'];clear i0;go_enter Tryz.func77,Tryz.ntmps77;go_wp2;go_ret;refine⟨rfl,?_⟩;exact gw
 ·rw[if_neg k0];have k0':(kind==0)=false:=by simpa using k0
  clear k0;by_cases k1:kind=1
  ·subst k1;rw[if_pos rfl];clear k0';by_cases i0:id=0
   ·subst i0;rw[show((0:Int) != 0)=false from rfl,Bool.false_and];go_enter Tryz.func77,Tryz.ntmps77;go_wp2;go_ret;refine⟨rfl,?_⟩;exact gw
   ·have i0':(id != 0)=true:=by simpa using i0
    rw[i0',Bool.true_and];clear i0;by_cases f1:fl=1
    ·subst f1;rw[decide_eq_true rfl,Bool.true_and];go_enter Tryz.func77,Tryz.ntmps77
     go_wp2_with (go_at_call 131;refine(HS.o _ gw).mono ?_;rintro e w1 ⟨rfl,R3,n3,rfl⟩)
     go_ret;refine⟨rfl,?_⟩;exact gw
    ·have f1':((fl:Int)==1)=false:=by simp;omega
     rw[decide_eq_false f1,Bool.false_and];clear f1;go_enter Tryz.func77,Tryz.ntmps77;go_wp2;go_ret;refine⟨rfl,?_⟩;exact gw
  ·rw[if_neg k1];have k1':(kind==1)=false:=by simpa using k1
   clear k1;by_cases k2:kind=2
   ·subst k2;rw[if_pos rfl];clear k0' k1';by_cases i0:id=0
    ·subst i0;rw[show((0:Int) != 0)=false from rfl,Bool.false_and];go_enter Tryz.func77,Tryz.ntmps77;go_wp2;go_ret;refine⟨rfl,?_⟩;exact gw
    ·have i0':(id != 0)=true:=by simpa using i0
     rw[i0',Bool.true_and];clear i0;by_cases f1:1≤fl
     ·have f1':(1:Int)≤(fl:Int):=by omega
      rw[decide_eq_true f1,Bool.true_and];by_cases f3:fl≤3
      ·have f3':(fl:Int)≤3:=by omega
       rw[decide_eq_true f3,Bool.true_and]
       cases nd with
       |true =>
        rw[Bool.true_and];by_cases p0:pl=0
        ·subst p0;go_enter Tryz.func77,Tryz.ntmps77
         go_wp2_with (go_at_call 30;refine(HU.o _ gw).mono ?_;rintro e w1 ⟨rfl,R3,n3,rfl⟩)
         go_ret;refine⟨rfl,?_⟩;exact gw
        ·have p0':((pl:Int)==0)=false:=by simpa using p0
         rw[decide_eq_false p0];clear p0;go_enter Tryz.func77,Tryz.ntmps77
         go_wp2_with (go_at_call 30;refine(HU.o _ gw).mono ?_;rintro e w1 ⟨rfl,R3,n3,rfl⟩)
         go_ret;refine⟨rfl,?_⟩
         exact gw
       |false =>
        rw[Bool.false_and];go_enter Tryz.func77,Tryz.ntmps77
        go_wp2_with (go_at_call 30;refine(HU.o _ gw).mono ?_;rintro e w1 ⟨rfl,R3,n3,rfl⟩)
        go_ret;refine⟨rfl,?_⟩;exact gw
      ·have f3':¬(fl:Int)≤3:=by omega
       rw[decide_eq_false f3,Bool.false_and];clear f3;go_enter Tryz.func77,Tryz.ntmps77;go_wp2;go_ret;refine⟨rfl,?_⟩;exact gw
     ·have f1':¬(1:Int)≤(fl:Int):=by omega
      rw[decide_eq_false f1,Bool.false_and];clear f1;go_enter Tryz.func77,Tryz.ntmps77;go_wp2;go_ret;refine⟨rfl,?_⟩;exact gw
   ·rw[if_neg k2];have k2':(kind==2)=false:=by simpa using k2
    clear k2;go_enter Tryz.func77,Tryz.ntmps77;go_wp2;go_ret;refine⟨rfl,?_⟩;exact gw
def aboveB(l:List Gr.Nd)(x:Int): Bool:=match Gr.nodeOf l x with
 | some m=>m.kind==2
 | none=>true
theorem enters75:∀args w,(callFunc 75 args).run Tryz.prog w = .ok (.enter 75 args) w:=enters_of Tryz.func75 (by kernel_rfl) rfl
theorem node1_pred(v:Value)(l:List Gr.Nd)(B:Nat)(w:World)(hv:NodesAt w v l)(hs:Small l)(hB:Pre B w)(hc:w.cell? ⟨B,0,none⟩=some v): PredI 75 #[.pointer (some ⟨B,0,none⟩)] (aboveB l) w:=by
 intro W x g;obtain⟨R,N,rfl⟩:=g;have HF:=hY fun W (g:Grew w W)=>find_any v l x W (hv.grew g) hs
 obtain⟨a,cap,rfl,hm,-⟩:=hv.openC;clear hv hs;show Calls Tryz.prog 75 #[.int .i64 x,.pointer (some ⟨B,0,none⟩)] _ (Gives (.bool (aboveB l x)) _)
 cases hn:Gr.nodeOf l x with
 |none =>
  have hb:aboveB l x=true:=by unfold aboveB;rw[hn]
  rw[hb];rw[hn] at HF;clear hn hb;go_enter Tryz.func75,Tryz.ntmps75
  go_wp2_with (go_at_call 76;refine(HF.o _ gw).mono ?_;rintro e w1 ⟨rfl,R3,n3,rfl⟩)
  go_ret;refine⟨rfl,?_⟩
  exact gw
 |some m =>
  have hb:aboveB l x=(m.kind==2):=by unfold aboveB;rw[hn]
  rw[hb];rw[hn] at HF;clear hn hb;go_enter Tryz.func75,Tryz.ntmps75
  go_wp2_with (go_at_call 76;refine(HF.o _ gw).mono ?_;rintro e w1 ⟨c9,rfl,hn9,-,R3,n3,rfl⟩;obtain⟨cid9,kind9,af9,cf9,ap9,cp9,par9,s0,s1,s2,s3,s4,s5,s6,s7,rfl⟩:=hn9.lit;(have HN9:=hY hn9);clear hn9)
  go_ret;refine⟨by rw[HN9.o.kind];rfl,?_⟩;exact gw
def nodeB(l:List Gr.Nd)(n:Gr.Nd): Bool:=decide (0≤n.id)&&(decide (n.id<8)&&(kindB n&&(routeB n && !n.frm.any (aboveB l))))
theorem node_any(c:NdC)(n:Gr.Nd)(v:Value)(l:List Gr.Nd)(w:World)(hn:NodeIs w c n)(hv:NodesAt w v l)(hs:Small l)(hf:n.frm.length≤1000): Calls Tryz.prog 29 #[.agg #[.int .i64 c.id,.int .i64 c.kind,.slice c.af c.nf c.cf,.slice c.ap c.np c.cp,.int .i64 c.par,.int .i64 c.r0,.int .i64 c.r1,.int .i64 c.r2,.int .i64 c.r3,.int .i64 c.r4,.int .i64 c.r5,.int .i64 c.r6,.int .i64 c.r7],v] w (Gives (.bool (nodeB l n)) w):=by
 have HK:=hY fun W (g:Grew w W)=>kind_any c n W (hn.grew g) hf
 have HR:=hY fun W (g:Grew w W)=>route_any c n W (hn.grew g)
 have HC:=hY fun W (g:Grew w W) (B:Nat) (hc:W.cell? ⟨B,0,none⟩=some v)=>containsFn_any c.vf n.frm 75 #[.pointer (some ⟨B,0,none⟩)] (aboveB l) W (hn.f.grew g) enters75 (node1_pred v l B W (hv.grew g) hs (Pre.ofCell hc) hc)
 obtain⟨id,kind,af,cf,ap,cp,par,r0,r1,r2,r3,r4,r5,r6,r7,rfl⟩:=hn.lit;obtain⟨a,cap,rfl,hm,-⟩:=hv.openC;have hid:=hn.id;have hb:nodeB l n=(decide (0≤id)&&(decide (id<8)&&(kindB n&&(routeB n && !n.frm.any (aboveB l))))):=by unfold nodeB;rw[hid]
 rw[hb];clear hb hid hn hv hs;simp only at HK HR HC;show Calls Tryz.prog 29 #[.agg #[.int .i64 id,.int .i64 kind,.slice af n.frm.length cf,.slice ap n.prog.length cp,.int .i64 par,.int .i64 r0,.int .i64 r1,.int .i64 r2,.int .i64 r3,.int .i64 r4,.int .i64 r5,.int .i64 r6,.int .i64 r7],.slice a l.length cap] w _;generalize kindB n=kb at *;generalize routeB n=rb at *;generalize n.frm.any (aboveB l)=ab at *;by_cases h0:0≤id
 ·rw[decide_eq_true h0,Bool.true_and];by_cases h8:id<8
  ·rw[decide_eq_true h8,Bool.true_and]
   cases kb with
   |true =>
    rw[Bool.true_and]
    cases rb with
    |true =>
     rw[Bool.true_and];go_enter Tryz.func29,Tryz.ntmps29
     go_wp2_with (first
    | (go_at_call 77;refine(HK.o _ gw).mono ?_;rintro e w1 ⟨rfl,R3,n3,rfl⟩)
    | (go_at_call 78;refine(HR.o _ gw).mono ?_;rintro e w1 ⟨rfl,R4,n4,rfl⟩)
    |(go_at_call 79;refine(HC.o _ gw (w.heap.size+1) (by simp[go_sem])).mono ?_;rintro e w1 ⟨rfl,R5,n5,rfl⟩))
     go_ret;refine⟨rfl,?_⟩
     exact gw
    |false =>
     rw[Bool.false_and];go_enter Tryz.func29,Tryz.ntmps29
     go_wp2_with (first
    | (go_at_call 77;refine(HK.o _ gw).mono ?_;rintro e w1 ⟨rfl,R3,n3,rfl⟩)
    | (go_at_call 78;refine(HR.o _ gw).mono ?_;rintro e w1 ⟨rfl,R4,n4,rfl⟩)
    |(go_at_call 79;refine(HC.o _ gw (w.heap.size+1) (by simp[go_sem])).mono ?_;rintro e w1 ⟨rfl,R5,n5,rfl⟩))
     go_ret;refine⟨rfl,?_⟩
     exact gw
   |false =>
    rw[Bool.false_and];go_enter Tryz.func29,Tryz.ntmps29
    go_wp2_with (first
    | (go_at_call 77;refine(HK.o _ gw).mono ?_;rintro e w1 ⟨rfl,R3,n3,rfl⟩)
    | (go_at_call 78;refine(HR.o _ gw).mono ?_;rintro e w1 ⟨rfl,R4,n4,rfl⟩)
    | (go_at_call 79;refine(HC.o _ gw (w.heap.size+1) (by simp[go_sem])).mono ?_;rintro e w1 ⟨rfl,R5,n5,rfl⟩))
    go_ret;refine⟨rfl,?_⟩;exact gw
  ·rw[decide_eq_false h8,Bool.false_and];go_enter Tryz.func29,Tryz.ntmps29;go_wp2;go_ret;refine⟨rfl,?_⟩;exact gw
 ·rw[decide_eq_false h0,Bool.false_and];go_enter Tryz.func29,Tryz.ntmps29;go_wp2;go_ret;refine⟨rfl,?_⟩;exact gw
def cmpId(x y:NdC): Int:=if x.id<y.id then -1 else if y.id<x.id then 1 else 0
theorem cmp_any(x y:NdC)(W:World): Calls Tryz.prog 117 #[.agg #[.int .i64 x.id,.int .i64 x.kind,.slice x.af x.nf x.cf,.slice x.ap x.np x.cp,.int .i64 x.par,.int .i64 x.r0,.int .i64 x.r1,.int .i64 x.r2,.int .i64 x.r3,.int .i64 x.r4,.int .i64 x.r5,.int .i64 x.r6,.int .i64 x.r7],.agg #[.int .i64 y.id,.int .i64 y.kind,.slice y.af y.nf y.cf,.slice y.ap y.np y.cp,.int .i64 y.par,.int .i64 y.r0,.int .i64 y.r1,.int .i64 y.r2,.int .i64 y.r3,.int .i64 y.r4,.int .i64 y.r5,.int .i64 y.r6,.int .i64 y.r7]] W fun e w'=>e = .returned (.int .i64 (cmpId x y))∧∃q os',w'=Sort.grow (W.drewN q) os':=by
 obtain⟨xi,xk,xaf,xnf,xcf,xap,xnp,xcp,xpar,x0,x1,x2,x3,x4,x5,x6,x7⟩:=x;obtain⟨yi,yk,yaf,ynf,ycf,yap,ynp,ycp,ypar,y0,y1,y2,y3,y4,y5,y6,y7⟩:=y;unfold cmpId;simp only;by_cases h1:xi<yi
 ·rw[if_pos h1];go_enter Tryz.func117,Tryz.ntmps117;go_wp2;go_ret;exact⟨rfl,0,_,by rw[Sort.alloc_eq_grow,Sort.alloc_eq_grow,Sort.grow_grow];rfl⟩
 ·rw[if_neg h1];by_cases h2:yi<xi
  ·rw[if_pos h2];go_enter Tryz.func117,Tryz.ntmps117;go_wp2;go_ret;exact⟨rfl,0,_,by rw[Sort.alloc_eq_grow,Sort.alloc_eq_grow,Sort.grow_grow];rfl⟩
  ·rw[if_neg h2];go_enter Tryz.func117,Tryz.ntmps117;go_wp2;go_ret;exact⟨rfl,0,_,by rw[Sort.alloc_eq_grow,Sort.alloc_eq_grow,Sort.grow_grow];rfl⟩
def NodesOwn(base:Nat)(w:World)(v:Value)(lc:List NdC): Prop:=OwnAt base 52 13 encNd w v lc
theorem infoNode:(Tryz.prog.info? 52).map (fun i=>(i.zero,i.size,i.bytes))=some (some (.agg #[.int .i64 0,.int .i64 0,.slice none 0 0,.slice none 0 0,.int .i64 0,.int .i64 0,.int .i64 0,.int .i64 0,.int .i64 0,.int .i64 0,.int .i64 0,.int .i64 0,.int .i64 0]),13,136):=by kernel_rfl
theorem enters117:∀args w,(callFunc 117 args).run Tryz.prog w = .ok (.enter 117 args) w:=enters_of Tryz.func117 (by kernel_rfl) rfl
theorem flat_flatK(lc:List NdC)(j:Nat)(hj:j<lc.length*13): (lc.flatMap encNd)[j]? = some ((Sort.flatK encNd 13 lc.toArray)[j]!):=by
 have hi:j / 13<lc.length:=by omega
 rw[Sort.get_flatK encNd 13 lc.toArray j (by simpa using hj)];have e1:lc.toArray[j / 13]! = lc[j / 13]:=by rw[getElem!_pos lc.toArray (j / 13) (by simpa using hi)];simp
 rw[e1];have hm:j%13<(encNd lc[j / 13]).length:=by rw[encNd_len];omega
 have h2:(encNd lc[j / 13])[j%13]? = some ((encNd lc[j / 13])[j%13]!):=by rw[List.getElem?_eq_getElem hm,getElem!_pos (encNd lc[j / 13]) (j%13) hm]
 have h3:=flat_get encNd_len lc (j / 13) lc[j / 13] (List.getElem?_eq_getElem hi) (j%13) _ h2;rw[show j / 13*13+j%13=j by omega] at h3;exact h3
theorem own_holdsK{base:Nat}{W:World}{b cap n:Nat}{lc:List NdC}(h:NodesOwn base W (.slice (some ⟨b,0,none⟩) n cap) lc): Sort.HoldsK encNd 13 W b 0 lc.toArray∧base≤b∧b<W.heap.size:=by
 obtain⟨h1,h2⟩:=h;rcases h2 with ⟨h,_⟩|⟨g,cap',cur,hv,hb,hh,hc,hm,hs,ht⟩
 ·cases h
 ·cases hv;refine⟨fun j hj=>?_,hb,(Array.getElem?_eq_some_iff.1 hh).1⟩;rw[Sort.size_flatK] at hj;have hj':j<lc.length*13:=by simpa using hj
  rw[Nat.zero_add,cell_of_heap hh,frozen_of_heap hh];refine⟨?_,rfl⟩;have h3:=flat_flatK lc j hj';rw[←ht,List.getElem?_take,if_pos hj'] at h3;simpa using h3
theorem own_ofSort{base:Nat}{W:World}{b cap n m:Nat}{lc lc':List NdC}{os:Array Obj}(h:NodesOwn base W (.slice (some ⟨b,0,none⟩) n cap) lc)(hl:lc'.length=lc.length):
  NodesOwn base (Go.Proofs.sortWorldK encNd 13 W b 0 m lc'.toArray os) (.slice (some ⟨b,0,none⟩) n cap) lc'∧(∀q,q<W.heap.size→q≠b→(Go.Proofs.sortWorldK encNd 13 W b 0 m lc'.toArray os).heap[q]? = W.heap[q]?)∧W.heap.size≤(Go.Proofs.sortWorldK encNd 13 W b 0 m lc'.toArray os).heap.size:=by
 obtain⟨h1,h2⟩:=h;rcases h2 with ⟨h,_⟩|⟨g,cap',cur,hv,hb,hh,hc,hm,hs,ht⟩
 ·cases h
 ·cases hv;have hblk:b<W.heap.size:=(Array.getElem?_eq_some_iff.1 hh).1
  have hat:∀q,q<W.heap.size→(Go.Proofs.sortWorldK encNd 13 W b 0 m lc'.toArray os).heap[q]? = (Sort.putRowK encNd 13 (Sort.ahead W m) b 0 lc'.toArray).heap[q]? :=by
   intro q hq;unfold sortWorldK Sort.grow;simp only;rw[Array.getElem?_append_left];show q<(Sort.putRow id _ _ _ _).heap.size;rw[Sort.size_putRow];exact hq
  have hself:(Go.Proofs.sortWorldK encNd 13 W b 0 m lc'.toArray os).heap[b]? = some (.cells (Sort.putCells id 0 (Sort.flatK encNd 13 lc'.toArray) cur) 52):=by
   rw[hat b hblk];unfold Sort.putRowK Sort.putRow Sort.mapBlock;simp only[Array.getElem?_modify,if_true];rw[show(Sort.ahead W m).heap=W.heap from rfl];have hh':W.heap[b]? = some (.cells cur 52):=hh;rw[hh'];rfl
  have hps:(Sort.putCells id 0 (Sort.flatK encNd 13 lc'.toArray) cur).size=cur.size:=by unfold Sort.putCells;rw[Array.size_mapIdx]
  refine⟨⟨by rw[flat_length encNd_len],.inr ⟨b,cap,_,by rw[hl],hb,hself,by rw[hl];exact hc,hm,by rw[hps];exact hs,?_⟩⟩,fun q hq hne=>?_,?_⟩
  ·refine List.ext_getElem? fun j=>?_
   by_cases hj:j<lc'.length*13
   ·rw[List.getElem?_take,if_pos hj,flat_flatK lc' j hj]
    have hjc:j<cur.size:=by
     rw[hs];have:lc'.length*13≤cap*13:=Nat.mul_le_mul_right 13 (by rw[hl];exact hc);omega
    unfold Sort.putCells;rw[Array.getElem?_toList,Array.getElem?_mapIdx,Array.getElem?_eq_getElem hjc];simp only[Option.map_some,Nat.zero_le,true_and,Nat.zero_add,Sort.size_flatK,Nat.sub_zero,id];rw[if_pos (by simpa using hj)]
   ·rw[List.getElem?_take,if_neg hj,List.getElem?_eq_none (by rw[flat_length encNd_len];omega)]
  ·rw[hat q hq];unfold Sort.putRowK Sort.putRow Sort.mapBlock;simp only[Array.getElem?_modify];rw[if_neg (fun e=>hne e.symm)];rfl
  ·unfold sortWorldK Sort.grow Sort.putRowK;simp only[Array.size_append,Sort.size_putRow];exact Nat.le_add_right _ _
theorem swoId:Sort.SWO (ltOf cmpId):=by
 refine⟨fun x=>?_,fun x y z h1 h2=>?_,fun x y z h1 h2=>?_⟩
 ·unfold ltOf cmpId;simp
 ·unfold ltOf cmpId at *;simp only[decide_eq_true_eq] at *;split at h1<;>split at h2<;>first|omega|(rw[if_pos (by omega)];omega)|(split at h1<;>split at h2<;>omega)
 ·unfold ltOf cmpId at *;simp only[decide_eq_false_iff_not] at *;split at h1<;>split at h2<;>first|omega|(rw[if_neg (by omega)];split<;>omega)
def sortC(lc:List NdC): List NdC:=(Sort.insertionSort (ltOf cmpId) lc.toArray 0 lc.length).toList
theorem sortC_ok(lc:List NdC): (sortC lc).Perm lc∧(sortC lc).Pairwise fun a b=>a.id≤b.id:=by
 have h:=Sort.insertionSort_holds (lt:=ltOf cmpId) swoId lc.toArray 0 lc.length (Nat.zero_le _) (by simp);obtain⟨⟨h1,h2,h3⟩,h4⟩:=h;have hsz:(Sort.insertionSort (ltOf cmpId) lc.toArray 0 lc.length).size=lc.length:=by rw[h1];simp
 unfold sortC;generalize Sort.insertionSort (ltOf cmpId) lc.toArray 0 lc.length=d at *;constructor
 ·have e1:d.extract 0 lc.length=d:=by rw[←hsz];simp
  have e2:lc.toArray.extract 0 lc.length=lc.toArray:=by
   simp
  rw[e1,e2] at h3;exact h3
 ·rw[List.pairwise_iff_getElem];intro i j hi hj hij;have hi':i<d.size:=by simpa using hi
  have hj':j<d.size:=by simpa using hj
  have h5:=h4 i j (Nat.zero_le _) hij (by omega);rw[getElem!_pos d i hi',getElem!_pos d j hj'] at h5;simp only[Array.getElem_toList];unfold ltOf cmpId at h5;simp only[decide_eq_false_iff_not] at h5;split at h5
  ·omega
  ·omega
def SortPost(base:Nat)(W:World)(v:Value)(lc:List NdC)(e:Ending)(w':World): Prop :=
 e = .returned (.tuple #[])∧∃lc',NodesOwn base w' v lc'∧lc'.Perm lc∧(lc'.Pairwise fun a b=>a.id≤b.id)∧(∀q,q<W.heap.size→v.ownBlock≠some q→w'.heap[q]? = W.heap[q]?)∧W.heap.size≤w'.heap.size∧(∀w0,Grew w0 W→w0.heap.size≤base→Grew w0 w')
theorem SortPost.none(base:Nat)(W:World)(v:Value)(h:NodesOwn base W v []): SortPost base W v [] (.returned (.tuple #[])) W :=
 ⟨rfl,[],h,List.Perm.refl _,List.Pairwise.nil,fun _ _ _=>rfl,Nat.le_refl _,fun _ g _=>g⟩
theorem insNodes_any(base:Nat)(W:World)(v:Value)(lc:List NdC)(h:NodesOwn base W v lc)(hl:lc.length≤1000):
  Calls Tryz.prog 196 #[v,.int .i64 0,.int .i64 lc.length,.func (.func 117) #[] #[]] W (SortPost base W v lc):=by
 rcases h.form with ⟨rfl,hn⟩|⟨b,cap,rfl,hb,hc,hm⟩
 ·subst hn;have HS:=hY (SortPost.none base W _ h);clear h;show Calls Tryz.prog _ #[.slice none 0 0,.int .i64 0,.int .i64 0,.func (.func 117) #[] #[]] W _;go_enter Tryz.func196,Tryz.ntmps196;go_wp2
  go_loopg [8] 0 (fun gg s8 wr=>s8 = .int .i64 1∧wr=W)
  case atStart=>exact⟨rfl,rfl⟩
  case round =>
   obtain⟨rfl,rfl⟩:=hrel;go_wp2
   go_end0
   exact HS.o
 ·obtain⟨hh,hb1,hb2⟩:=own_holdsK h;have hcon:=AnyQ.insertionSortCmpFunc Tryz.insNode 13 Tryz.isAgg52 Tryz.sizeOf52 encNd encNd_len encNd_one cmpId 117 #[] b 0 cap 0 lc.length lc.toArray W enters117 (fun m os dk _ x y=>cmp_any x y _) hh hb2 (Nat.zero_le _) (by simp) (by simp;omega);have hcon2:Calls Tryz.prog 196 #[.slice (some ⟨b,0,none⟩) lc.length cap,.int .i64 0,.int .i64 lc.length,.func (.func 117) #[] #[]] W _:=hcon;refine hcon2.mono fun e w' ⟨he,n,os,hw⟩=>?_
  obtain⟨p1,p2⟩:=sortC_ok lc;have hw2:w'=sortWorldK encNd 13 W b 0 n (sortC lc).toArray os:=hw;obtain⟨q1,q2,q3⟩:=own_ofSort (n:=lc.length) (cap:=cap) (m:=n) (os:=os) h p1.length_eq;rw[←hw2] at q1 q2 q3;refine⟨he,sortC lc,q1,p1,p2,fun q hq hne=>q2 q hq fun e=>hne (by rw[e];rfl),q3,fun w0 g hb0=>?_⟩;rw[hw2];unfold sortWorldK Sort.putRowK;exact grewOs (grewRow (grewAhead g _) (by omega)) _
theorem stableNodes_any(base:Nat)(W:World)(v:Value)(lc:List NdC)(h:NodesOwn base W v lc)(hl:lc.length≤19):
  Calls Tryz.prog 162 #[v,.int .i64 lc.length,.func (.func 117) #[] #[]] W (SortPost base W v lc):=by
 have HI:=hY (insNodes_any base W v lc h (by omega));obtain⟨a,cap,rfl⟩:=(OwnAt.rows h encNd_len).len;clear h;have h19:(lc.length:Int)≤19:=by omega
 generalize lc.length=ln at *;go_enter Tryz.func162,Tryz.ntmps162;go_wp2
 go_loopg [7,8] 0 (fun gg s7 s8 wr=>s7 = .int .i64 0∧s8 = .int .i64 20∧wr=W)
 case atStart=>exact⟨rfl,rfl,rfl⟩
 case round =>
  obtain⟨rfl,rfl,rfl⟩:=hrel
  go_wp2_with (go_at_call 196;refine HI.o.mono ?_;rintro e w1 ⟨rfl,hp⟩;(have HP:=hY hp);clear hp)
  go_loopg [6] 0 (fun gg s6 wr=>s6 = .int .i64 20∧wr=w1)
  case atStart=>exact⟨rfl,rfl⟩
  case round =>
   obtain⟨rfl,rfl⟩:=hrel;go_wp2
   go_end0
   exact⟨rfl,HP.o⟩
theorem sortNodes_any(base:Nat)(W:World)(v:Value)(lc:List NdC)(h:NodesOwn base W v lc)(hl:lc.length≤19):
  Calls Tryz.prog 116 #[v,.func (.func 117) #[] #[]] W (SortPost base W v lc):=by
 have HI:=hY (stableNodes_any base W v lc h hl);have hm:=(OwnAt.rows h encNd_len);obtain⟨a,cap,rfl⟩:=(OwnAt.rows h encNd_len).len;clear h hm;go_enter Tryz.func116,Tryz.ntmps116
 go_wp2_with (go_at_call 162;refine HI.o.mono ?_;rintro e w1 ⟨rfl,hp⟩;(have HP:=hY hp);clear hp)
 go_end0
 exact⟨rfl,HP.o⟩
def Rel{α β:Type}(R:α→β→Prop): List α→List β→Prop
 | [],[]=>True
 | a::xs,b::ys=>R a b∧Rel R xs ys
 | _,_=>False
theorem Rel.len{α β:Type}{R:α→β→Prop}: ∀{xs:List α} {ys:List β},Rel R xs ys→xs.length=ys.length
 | [],[],_=>rfl
 | a::xs,b::ys,h=>by rw[List.length_cons,List.length_cons,Rel.len h.2]
 | [],_::_,h=>h.elim
 | _::_,[],h=>h.elim
theorem Rel.get{α β:Type}{R:α→β→Prop}: ∀{xs:List α} {ys:List β},Rel R xs ys→∀(i:Nat) (a:α) (b:β),xs[i]? = some a→ys[i]? = some b→R a b
 | [],[],_,i,a,b,h1,_=>by simp at h1
 | a::xs,b::ys,h,0,x,y,h1,h2=>by simp at h1 h2;subst h1 h2;exact h.1
 | a::xs,b::ys,h,i+1,x,y,h1,h2=>Rel.get h.2 i x y (by simpa using h1) (by simpa using h2)
 | [],_::_,h,_,_,_,_,_=>h.elim
 | _::_,[],h,_,_,_,_,_=>h.elim
theorem Rel.snoc{α β:Type}{R:α→β→Prop}: ∀{xs:List α} {ys:List β},Rel R xs ys→∀{a:α} {b:β},R a b→Rel R (xs++[a]) (ys++[b])
 | [],[],_,a,b,h=>⟨h,trivial⟩
 | a::xs,b::ys,h,x,y,h2=>⟨h.1,Rel.snoc h.2 h2⟩
 | [],_::_,h,_,_,_=>h.elim
 | _::_,[],h,_,_,_=>h.elim
theorem Rel.mono{α β:Type}{R S:α→β→Prop}(hm:∀a b,R a b→S a b): ∀{xs:List α} {ys:List β},Rel R xs ys→Rel S xs ys
 | [],[],_=>trivial
 | a::xs,b::ys,h=>⟨hm a b h.1,Rel.mono hm h.2⟩
 | [],_::_,h=>h.elim
 | _::_,[],h=>h.elim
theorem Rel.perm{α β:Type}{R:α→β→Prop}{xs' xs:List α}(hp:xs'.Perm xs): ∀{ys:List β},Rel R xs ys→∃ys',Rel R xs' ys'∧ys'.Perm ys:=by
 induction hp with
 |nil=>intro ys h;cases ys with
  | nil=>exact⟨[],trivial,List.Perm.refl _⟩
  | cons=>exact h.elim
 |cons x _ ih=>intro ys h;cases ys with
  | nil=>exact h.elim
  |cons b ys =>
   obtain⟨ys',h1,h2⟩:=ih h.2
   exact⟨b::ys',⟨h.1,h1⟩,h2.cons b⟩
 |swap x y t=>intro ys h;cases ys with
  | nil=>exact h.elim
  |cons b ys=>cases ys with
   | nil=>exact h.2.elim
   | cons c ys=>exact⟨c::b::ys,⟨h.2.1,h.1,h.2.2⟩,List.Perm.swap ..⟩
 |trans _ _ ih1 ih2 =>
  intro ys h;obtain⟨b2,h1,h2⟩:=ih2 h;obtain⟨b1,h3,h4⟩:=ih1 h1;exact⟨b1,h3,h4.trans h2⟩
def NodesIn(base:Nat)(w:World)(lc:List NdC)(l:List Gr.Nd): Prop:=Rel (fun c n=>NodeIs w c n∧OwnsNd base w c n) lc l
theorem NodesIn.at{base:Nat}{w:World}{v:Value}{lc:List NdC}{l:List Gr.Nd}(h:NodesIn base w lc l)(ho:NodesOwn base w v lc): NodesAt w v l :=
 ⟨lc,OwnAt.rows ho encNd_len,Rel.len h,fun i c n h1 h2=>(Rel.get h i c n h1 h2).1⟩
theorem OwnsNd.to2{base:Nat}{w w':World}{c:NdC}{n:Gr.Nd}(o:OwnsNd base w c n)(hb:∀(q:Nat) (cs:Array Value) (t:TypeId),w.heap[q]? = some (.cells cs t)→base≤q→t≠52→w'.heap[q]? = w.heap[q]?): OwnsNd base w' c n:=by
 refine⟨OwnAt.same o.1 fun b h=>?_,OwnAt.same o.2 fun b h=>?_⟩
 ·obtain⟨h1,cs,h2⟩:=OwnAt.block o.1 h;exact hb b cs _ h2 h1 (by decide)
 ·obtain⟨h1,cs,h2⟩:=OwnAt.block o.2 h;exact hb b cs _ h2 h1 (by decide)
theorem NodesIn.keep{base:Nat}{w w':World}{v:Value}{lc lv:List NdC}{l:List Gr.Nd}(h:NodesIn base w lc l)(ho:NodesOwn base w v lv)(hk:∀q,q<w.heap.size→v.ownBlock≠some q→w'.heap[q]? = w.heap[q]?): NodesIn base w' lc l :=
 Rel.mono (fun c n ⟨h1,h2⟩=>by
  have h3:OwnsNd base w' c n:=h2.to2 fun q cs t hq hb hne=>hk q (heap_lt hq) (OwnAt.other ho hq hne)
  exact⟨h3.is h1,h3⟩) h
theorem NodesIn.grew{base:Nat}{w w':World}{lc:List NdC}{l:List Gr.Nd}(h:NodesIn base w lc l)(g:Grew w w'): NodesIn base w' lc l :=
 Rel.mono (fun c n ⟨h1,h2⟩=>⟨h1.grew g,h2.grew g⟩) h
theorem nd_at(W:World)(x:NdC)(t:TypeId)(b:Nat){c:Array Value}(hc:c=(encNd x).toArray)(hb:b=W.heap.size): ∀j u,(([x]:List NdC).flatMap encNd)[j]? = some u→(W.alloc (.cells c t)).cell? ⟨b,j,none⟩=some u:=by
 subst hc;intro j u hu;rw[new_cells W _ t b hb j];simpa using hu
def NormGives(l:List Gr.Nd)(w:World)(e:Ending)(w':World): Prop:=∃v lc l',e = .returned v∧NodesOwn w.heap.size w' v lc∧NodesIn w.heap.size w' lc l'∧l'.Perm l∧(l'.Pairwise fun a b=>a.id≤b.id)∧Grew w w'
theorem norm_made{w W w':World}{v:Value}{lc:List NdC}{l:List Gr.Nd}{e:Ending}(h:SortPost w.heap.size W v lc e w')(hn:NodesIn w.heap.size W lc l)(ho:NodesOwn w.heap.size W v lc)(g:Grew w W): NormGives l w (.returned v) w':=by
 obtain⟨-,lc',h1,h2,h3,h4,h5,h6⟩:=h;have hk:=NodesIn.keep hn ho h4;obtain⟨l',h7,h8⟩:=Rel.perm h2 hk;refine⟨v,lc',l',rfl,h1,h7,h8,?_,h6 w g (Nat.le_refl _)⟩;rw[List.pairwise_iff_getElem] at h3 ⊢;intro i j hi hj hij;have hl:=Rel.len h7;have:=h3 i j (by omega) (by omega) hij;have e1:=(Rel.get h7 i _ _ (List.getElem?_eq_getElem (by omega)) (List.getElem?_eq_getElem hi)).1.id;have e2:=(Rel.get h7 j _ _ (List.getElem?_eq_getElem (by omega)) (List.getElem?_eq_getElem hj)).1.id;rw[e1,e2];exact this
theorem norm_round{w wr W4 W W':World}{v v':Value}{lc:List NdC}{c:NdC}{l:List Gr.Nd}{y:Gr.Nd}{base:Nat}(gw:Grew w wr)(ho:NodesOwn w.heap.size wr v lc)(hn:NodesIn w.heap.size wr lc l)(g1:Grew wr W)(h9:NodeIs W4 c y)(o9:OwnsNd base W4 c y)(hb:w.heap.size≤base)(g2:Grew W4 W)
  (hA:Appended w 52 13 encNd W v (lc++[c]) v' W'):Grew w W'∧NodesOwn w.heap.size W' v' (lc++[c])∧NodesIn w.heap.size W' (lc++[c]) (l++[y]):=by
 obtain⟨a1,a2,a3,a4,a5⟩:=hA;have ho':NodesOwn w.heap.size W v lc:=OwnAt.grew ho g1;have h5:OwnsNd w.heap.size W' c y:=((o9.grew g2).low hb).to2 fun q cs t hq _ hne=>a4 q (heap_lt hq) (OwnAt.other ho' hq hne)
 exact⟨a1,a2,Rel.snoc ((hn.grew g1).keep ho' a4) ⟨h5.is h9,h5⟩⟩
theorem norm_any(v:Value)(l:List Gr.Nd)(w:World)(hv:NodesAt w v l)(hs:Small l)(hl:l.length≤19): Calls Tryz.prog 55 #[v] w (NormGives l w):=by
 have HV:=hY hv;have HS:=hY hs;obtain⟨a,cap,rfl,hm,-⟩:=hv.openC;clear hv hs;go_enter Tryz.func55,Tryz.ntmps55;go_wp2
 go_loopg [3,8] l.length (fun gg s3 s8 wr=>∃(k:Nat) (lc:List NdC) (vk:Value),k≤l.length∧l.length-k≤gg∧s8 = .int .i64 k∧vk=s3∧Hid (Grew w wr)∧Hid (NodesOwn w.heap.size wr vk lc)∧Hid (NodesIn w.heap.size wr lc (l.take k)))
 case atStart=>exact⟨0,[],_,Nat.zero_le _,by omega,rfl,rfl,hY gw,hY (OwnAt.nil _),hY trivial⟩
 case round =>
  obtain⟨k,lc,vk,hk,hgg,rfl,rfl,HG,HO,HN⟩:=hrel;by_cases hlt:k<l.length
  ·obtain⟨a',cap',e,-,hx⟩:=(HV.o.grew HG.o).openC;cases e;obtain⟨b,off,c,rfl,hb,hn,c0,c1,c2,c3,c4,c5,c6,c7,c8,c9,c10,c11,c12⟩:=hx k hlt;obtain⟨s1,s2⟩:=HS.o _ (List.getElem_mem hlt);have htk:l.take (k+1)=l.take k++[l[k]]:=List.take_succ_eq_append_getElem hlt;have HT:=hY htk;have hlc:=Rel.len HN.o;rw[List.length_take,Nat.min_eq_left hk] at hlc;have HLC:=hY hlc;clear hx htk hlc;generalize hy:l[k]=y at *;have HNc:=hY hn;have HOW:=hY fun W (g:Grew wr W)=>own_any c y W (HNc.o.grew g) s1 s2
   obtain⟨cid,kind,af,cf,ap,cp,par,r0,r1,r2,r3,r4,r5,r6,r7,rfl⟩:=HNc.o.lit;simp only at c0 c1 c2 c3 c4 c5 c6 c7 c8 c9 c10 c11 c12;clear hy hn
   go_wp2_with (first
    | (go_at_call 115;refine(HOW.o _ gw).mono ?_;rintro e w1 ⟨c9,rfl,hn9,ho9,R4,n4,rfl⟩;obtain⟨cid9,kind9,af9,cf9,ap9,cp9,par9,s0,s1,s2,s3,s4,s5,s6,s7,rfl⟩:=hn9.lit;(have HN9:=hY hn9);(have HO9:=hY ho9);clear hn9 ho9)
    | (at_builtin;refine wpList_ownK (w0:=w) rfl (.tmp 12) (.tmp 15) 22 _ _ _ _ [⟨cid9,kind9,af9,y.frm.length,cf9,ap9,y.prog.length,cp9,par9,s0,s1,s2,s3,s4,s5,s6,s7⟩] rfl Tryz.underlying22 infoNode rfl (by decide) encNd_len encNd_one rfl (OwnAt.grew HO.o gw) (HG.o.trans gw) rfl (nd_at _ _ _ _ rfl (by simp[go_sem])) (by rw[HLC.o];simp;omega) (by decide) (by simp) ?_;intro v5 W5 hA;(have HA:=hY hA);clear hA))
   have hr:=norm_round HG.o HO.o HN.o gw HN9.o HO9.o (by have:=HG.o.below.size;simp[World.size_alloc];omega) gw HA.o;rw[←HT.o] at hr;obtain⟨q1,q2,q3⟩:=hr;have Q1:=hY q1;have Q2:=hY q2;have Q3:=hY q3;clear q1 q2 q3
   go_roundg (l.length-(k+1))
   case measure=>omega
   case rel=>exact⟨k+1,_,_,by omega,by omega,by go_num,rfl,Q1,Q2,Q3⟩
  ·obtain rfl:k=l.length:=by omega
   have hn:=HN.o;rw[List.take_length] at hn;have hlc:=Rel.len hn;have HSN:=hY (sortNodes_any w.heap.size wr vk lc HO.o (by omega));have HN2:=hY hn;obtain⟨a3,cap3,rfl⟩:=(OwnAt.rows HO.o encNd_len).len;clear hn hlc
   go_wp2_with (go_at_call 116;refine HSN.o.mono ?_;rintro e w1 hp;(have he:=hp.1);subst he;(have HP:=hY hp);clear hp)
   go_ret;exact norm_made HP.o HN2.o HO.o HG.o
theorem enters84:∀args w,(callFunc 84 args).run Tryz.prog w = .ok (.enter 84 args) w:=enters_of Tryz.func84 (by kernel_rfl) rfl
theorem enters85:∀args w,(callFunc 85 args).run Tryz.prog w = .ok (.enter 85 args) w:=enters_of Tryz.func85 (by kernel_rfl) rfl
theorem sort1_pred(out:List Int)(v:Value)(B:Nat)(w:World)(hv:IntsAt w v out)(hB:Pre B w)(hc:w.cell? ⟨B,0,none⟩=some v): PredI 84 #[.pointer (some ⟨B,0,none⟩)] (fun x=>decide (x∈out)) w:=by
 intro W x g;obtain⟨R,N,rfl⟩:=g;have HC:=hY fun W (g:Grew w W)=>containsI_any v out x W (hv.grew g)
 obtain⟨a,cap,rfl⟩:=hv.len;clear hv;show Calls Tryz.prog 84 #[.int .i64 x,.pointer (some ⟨B,0,none⟩)] _ (Gives (.bool (decide (x∈out))) _);generalize decide (x∈out)=r at *;go_enter Tryz.func84,Tryz.ntmps84
 go_wp2_with (go_at_call 31;refine(HC.o _ gw).mono ?_;rintro e w1 ⟨rfl,hw1⟩;obtain rfl:=hw1)
 go_ret;refine⟨rfl,?_⟩;exact gw
theorem sort2_pred(out:List Int)(v:Value)(B C:Nat)(w:World)(hv:IntsAt w v out)(hB:Pre B w)(hc:w.cell? ⟨B,0,none⟩=some v)(hC:Pre C w)(hcC:w.cell? ⟨C,0,none⟩=some (.func (.func 84) #[] #[.pointer (some ⟨B,0,none⟩)])): PredI 85 #[.pointer (some ⟨C,0,none⟩)] (fun x=> !decide (x∈out)) w:=by
 intro W x g;have HS:=hY (sort1_pred out v B w hv hB hc);obtain⟨R,N,rfl⟩:=g;have eg:=enters84;clear hv hc hB;show Calls Tryz.prog 85 #[.int .i64 x,.pointer (some ⟨C,0,none⟩)] _ (Gives (.bool (!decide (x∈out))) _);generalize hq:(fun x=>decide (x∈out))=p at *;have hp:decide (x∈out)=p x:=by rw[←hq]
 rw[hp];clear hq hp;generalize hr:p x=r;have HR:=hY hr;clear hr;go_enter Tryz.func85,Tryz.ntmps85
 go_wp2_with (go_at_fn 84;refine(HS.o _ x gw).mono ?_;rintro e w1 ⟨rfl,R3,n3,rfl⟩;rw[HR.o])
 go_ret;refine⟨rfl,?_⟩;exact gw
structure SortAt (w w1:World) (B C:Nat) (W:World) (v:Value) (out:List Int):Prop where
 keep:Keep B w1 W
 g:Grew w W
 own:OwnAt w.heap.size 3 1 encN W v out
 hi:∀q,v.ownBlock=some q→w1.heap.size≤q
 b:W.heap[B]? = some (.cells #[v] 43)
 c:W.heap[C]? = some (.cells #[.func (.func 84) #[] #[.pointer (some ⟨B,0,none⟩)]] 133)
 bl:w.heap.size≤B
theorem SortAt.grew{w w1:World}{B C:Nat}{W W':World}{v:Value}{out:List Int}(h:SortAt w w1 B C W v out)(g:Grew W W'): SortAt w w1 B C W' v out :=
 ⟨h.keep.trans (Keep.ofGrew g),h.g.trans g,h.own.grew g,h.hi,grew_heap g h.b,grew_heap g h.c,h.bl⟩
theorem SortAt.push{w w1:World}{B C:Nat}{W W':World}{v v':Value}{out:List Int}{x:Int}(h:SortAt w w1 B C W v out)(hA:Appended w 3 1 encN W v (out++[x]) v' W'):
  W'.heap[B]? = some (.cells #[v] 43)∧SortAt w w1 B C (W'.setCell ⟨B,0,none⟩ v') v' (out++[x]):=by
 obtain⟨a1,a2,a3,a4,a5⟩:=hA;have hB:W'.heap[B]? = some (.cells #[v] 43):=by rw[a4 B (heap_lt h.b) (OwnAt.other h.own h.b (by decide))];exact h.b
 have hC:W'.heap[C]? = some (.cells #[.func (.func 84) #[] #[.pointer (some ⟨B,0,none⟩)]] 133):=by rw[a4 C (heap_lt h.c) (OwnAt.other h.own h.c (by decide))];exact h.c
 have hne:B≠C:=fun e=>by
  rw[e,hC] at hB;cases hB
 have hk:Keep B w1 W':=⟨Nat.le_trans h.keep.1 a3,fun q hq hn=>(a4 q (Nat.lt_of_lt_of_le hq h.keep.1) fun e=>by have:=h.hi q e;omega).trans (h.keep.2 q hq hn)⟩;refine⟨hB,⟨hk.trans (Keep.set _),a1.set h.bl _,OwnAt.same a2 fun b hb=>set_other fun e=>?_,fun q hq=>?_,by rw[set_self hB];rfl,by rw[set_other hne];exact hC,h.bl⟩⟩
 ·subst e;exact OwnAt.other a2 hB (by decide) hb
 ·rcases a5 q hq with h1|h1
  ·exact h.hi q h1
  ·exact Nat.le_trans h.keep.1 h1
theorem SortAt.nodes{w w1:World}{B C base:Nat}{W:World}{v vn:Value}{out:List Int}{lc:List NdC}{l:List Gr.Nd}(h:SortAt w w1 B C W v out)(ho:NodesOwn base w1 vn lc)(hn:NodesIn base w1 lc l)(hB:∃c,w1.heap[B]? = some (.cells c 43)): NodesAt W vn l:=by
 obtain⟨cB,hB⟩:=hB;have hk:=h.keep
 have hne:∀(q:Nat) (cs:Array Value) (t:TypeId),w1.heap[q]? = some (.cells cs t)→t≠43→q≠B:=fun q cs t hq ht e=>by
  subst e;rw[hB] at hq;cases hq;exact ht rfl
 have ho2:NodesOwn base W vn lc:=OwnAt.same ho fun b hb=>by
  obtain⟨_,cs,h2⟩:=OwnAt.block ho hb;exact hk.2 b (heap_lt h2) (hne b cs _ h2 (by decide))
 have hn2:NodesIn base W lc l:=Rel.mono (fun c n ⟨h1,h2⟩=>by
  have h3:OwnsNd base W c n:=by
   refine⟨OwnAt.same h2.1 fun b hb=>?_,OwnAt.same h2.2 fun b hb=>?_⟩
   ·obtain⟨_,cs,h4⟩:=OwnAt.block h2.1 hb;exact hk.2 b (heap_lt h4) (hne b cs _ h4 (by decide))
   ·obtain⟨_,cs,h4⟩:=OwnAt.block h2.2 hb;exact hk.2 b (heap_lt h4) (hne b cs _ h4 (by decide))
  exact⟨h3.is h1,h3⟩) hn
 exact hn2.at ho2
def standP(out:List Int)(n:Gr.Nd): Bool:= !out.contains n.id&&n.frm.all fun f=>out.contains f
theorem standP_eq(out:List Int)(n:Gr.Nd): standP out n=(!decide (n.id∈out) && !n.frm.any fun f=> !decide (f∈out)):=by
 unfold standP;rw[List.not_any_eq_all_not];simp
theorem standP_next(l:List Gr.Nd)(out:List Int): Gr.nextS l out=(l.find? (standP out)).map (·.id):=rfl
def sliceLen:Value→Nat
 | .slice _ n _=>n
 | _=>0
section
variable {α:Type} [Inhabited α] {enc:α→List Value} {k:Nat} {e:TypeId}
theorem flat_flatKG(henc:∀x,(enc x).length=k)(hk:0<k)(lc:List α)(j:Nat)(hj:j<lc.length*k): (lc.flatMap enc)[j]? = some ((Sort.flatK enc k lc.toArray)[j]!):=by
 have hi:j / k<lc.length:=Nat.div_lt_of_lt_mul (by rw[Nat.mul_comm];exact hj);rw[Sort.get_flatK enc k lc.toArray j (by simpa using hj)];have e1:lc.toArray[j / k]! = lc[j / k]:=by rw[getElem!_pos lc.toArray (j / k) (by simpa using hi)];simp
 rw[e1];have hm:j%k<(enc lc[j / k]).length:=by rw[henc];exact Nat.mod_lt _ hk
 have h2:(enc lc[j / k])[j%k]? = some ((enc lc[j / k])[j%k]!):=by rw[List.getElem?_eq_getElem hm,getElem!_pos (enc lc[j / k]) (j%k) hm]
 have h3:=flat_get henc lc (j / k) lc[j / k] (List.getElem?_eq_getElem hi) (j%k) _ h2;rw[show j / k*k+j%k=j from by rw[Nat.mul_comm];exact Nat.div_add_mod j k] at h3;exact h3
theorem own_holdsKG(henc:∀x,(enc x).length=k)(hk:0<k){base:Nat}{W:World}{b cap n:Nat}{lc:List α}(h:OwnAt base e k enc W (.slice (some ⟨b,0,none⟩) n cap) lc): Sort.HoldsK enc k W b 0 lc.toArray∧base≤b∧b<W.heap.size:=by
 obtain⟨h1,h2⟩:=h;rcases h2 with ⟨h,_⟩|⟨g,cap',cur,hv,hb,hh,hc,hm,hs,ht⟩
 ·cases h
 ·cases hv;refine⟨fun j hj=>?_,hb,(Array.getElem?_eq_some_iff.1 hh).1⟩;rw[Sort.size_flatK] at hj;have hj':j<lc.length*k:=by simpa using hj
  rw[Nat.zero_add,cell_of_heap hh,frozen_of_heap hh];refine⟨?_,rfl⟩;have h3:=flat_flatKG henc hk lc j hj';rw[←ht,List.getElem?_take,if_pos hj'] at h3;simpa using h3
theorem own_ofSortG(henc:∀x,(enc x).length=k)(hk:0<k){base:Nat}{W:World}{b cap n m:Nat}{lc lc':List α}{os:Array Obj}(h:OwnAt base e k enc W (.slice (some ⟨b,0,none⟩) n cap) lc)(hl:lc'.length=lc.length):
  OwnAt base e k enc (Go.Proofs.sortWorldK enc k W b 0 m lc'.toArray os) (.slice (some ⟨b,0,none⟩) n cap) lc'∧(∀q,q<W.heap.size→q≠b→(Go.Proofs.sortWorldK enc k W b 0 m lc'.toArray os).heap[q]? = W.heap[q]?)∧W.heap.size≤(Go.Proofs.sortWorldK enc k W b 0 m lc'.toArray os).heap.size:=by
 obtain⟨h1,h2⟩:=h;rcases h2 with ⟨h,_⟩|⟨g,cap',cur,hv,hb,hh,hc,hm,hs,ht⟩
 ·cases h
 ·cases hv;have hblk:b<W.heap.size:=(Array.getElem?_eq_some_iff.1 hh).1
  have hat:∀q,q<W.heap.size→(Go.Proofs.sortWorldK enc k W b 0 m lc'.toArray os).heap[q]? = (Sort.putRowK enc k (Sort.ahead W m) b 0 lc'.toArray).heap[q]? :=by
   intro q hq;unfold sortWorldK Sort.grow;simp only;rw[Array.getElem?_append_left];show q<(Sort.putRow id _ _ _ _).heap.size;rw[Sort.size_putRow];exact hq
  have hself:(Go.Proofs.sortWorldK enc k W b 0 m lc'.toArray os).heap[b]? = some (.cells (Sort.putCells id 0 (Sort.flatK enc k lc'.toArray) cur) e):=by
   rw[hat b hblk];unfold Sort.putRowK Sort.putRow Sort.mapBlock;simp only[Array.getElem?_modify,if_true];rw[show(Sort.ahead W m).heap=W.heap from rfl];have hh':W.heap[b]? = some (.cells cur e):=hh;rw[hh'];rfl
  have hps:(Sort.putCells id 0 (Sort.flatK enc k lc'.toArray) cur).size=cur.size:=by unfold Sort.putCells;rw[Array.size_mapIdx]
  refine⟨⟨by rw[flat_length henc],.inr ⟨b,cap,_,by rw[hl],hb,hself,by rw[hl];exact hc,hm,by rw[hps];exact hs,?_⟩⟩,fun q hq hne=>?_,?_⟩
  ·refine List.ext_getElem? fun j=>?_
   by_cases hj:j<lc'.length*k
   ·rw[List.getElem?_take,if_pos hj,flat_flatKG henc hk lc' j hj]
    have hjc:j<cur.size:=by
     rw[hs];exact Nat.lt_of_lt_of_le hj (Nat.mul_le_mul_right k (by rw[hl];exact hc))
    unfold Sort.putCells;rw[Array.getElem?_toList,Array.getElem?_mapIdx,Array.getElem?_eq_getElem hjc];simp only[Option.map_some,Nat.zero_le,true_and,Nat.zero_add,Sort.size_flatK,Nat.sub_zero,id];rw[if_pos (by simpa using hj)]
   ·rw[List.getElem?_take,if_neg hj,List.getElem?_eq_none (by rw[flat_length henc];omega)]
  ·rw[hat q hq];unfold Sort.putRowK Sort.putRow Sort.mapBlock;simp only[Array.getElem?_modify];rw[if_neg (fun e=>hne e.symm)];rfl
  ·unfold sortWorldK Sort.grow Sort.putRowK;simp only[Array.size_append,Sort.size_putRow];exact Nat.le_add_right _ _
end
abbrev Sm:={ x:Tab.En // There x }
instance:Inhabited Sm:=⟨⟨⟨0,0,(0,0),(0,0)⟩,⟨by decide,by decide⟩,⟨by decide,by decide⟩⟩⟩
def encSm(x:Sm): List Value:=encEn x.1
theorem encSm_len(x:Sm): (encSm x).length=6:=rfl
def cmpSm(x y:Sm): Int:=(x.1.node-y.1.node)*64+x.1.key-y.1.key
theorem cmpSm_num(x y:Sm): cmpSm x y=Tab.num x.1-Tab.num y.1:=by unfold cmpSm Tab.num;omega
theorem ltSm(x y:Sm): ltOf cmpSm x y=decide (Tab.num x.1<Tab.num y.1):=by
 unfold ltOf;rw[cmpSm_num];exact decide_eq_decide.2 (by omega)
theorem swoSm:Sort.SWO (ltOf cmpSm):=by
 refine⟨fun x=>?_,fun x y z h1 h2=>?_,fun x y z h1 h2=>?_⟩
 ·rw[ltSm];simp
 ·rw[ltSm] at *;simp only[decide_eq_true_eq] at *;omega
 ·rw[ltSm] at *;simp only[decide_eq_false_iff_not] at *;omega
theorem cmpEn_any(x y:Sm)(W:World): Calls Tryz.prog 223 #[.agg (encSm x).toArray,.agg (encSm y).toArray] W fun e w'=>e = .returned (.int .i64 (cmpSm x y))∧∃q os',w'=Sort.grow (W.drewN q) os':=by
 obtain⟨⟨n1,k1,⟨a1,b1⟩,⟨c1,d1⟩⟩,⟨h1,h2⟩,h3,h4⟩:=x;obtain⟨⟨n2,k2,⟨a2,b2⟩,⟨c2,d2⟩⟩,⟨g1,g2⟩,g3,g4⟩:=y;simp only at h1 h2 h3 h4 g1 g2 g3 g4;unfold cmpSm;simp only;show Calls Tryz.prog _ #[.agg #[.int .i64 n1,.int .i64 k1,.int .i64 a1,.int .i64 b1,.int .i64 c1,.int .i64 d1],.agg #[.int .i64 n2,.int .i64 k2,.int .i64 a2,.int .i64 b2,.int .i64 c2,.int .i64 d2]] W _;go_enter Tryz.func223,Tryz.ntmps223;go_wp2;go_ret;exact⟨rfl,0,_,by rw[Sort.alloc_eq_grow,Sort.alloc_eq_grow,Sort.grow_grow];rfl⟩
theorem enters223:∀args w,(callFunc 223 args).run Tryz.prog w = .ok (.enter 223 args) w:=enters_of Tryz.func223 (by kernel_rfl) rfl
def SortPostE(base:Nat)(W:World)(v:Value)(l:List Tab.En)(e:Ending)(w':World): Prop :=
 e = .returned (.tuple #[])∧∃l',OwnAt base 115 6 encEn w' v l'∧l'.Perm l∧(l'.Pairwise fun a b=>Tab.num a≤Tab.num b)∧(∀q,q<W.heap.size→v.ownBlock≠some q→w'.heap[q]? = W.heap[q]?)∧W.heap.size≤w'.heap.size∧(∀w0,Grew w0 W→w0.heap.size≤base→Grew w0 w')
theorem ownSm{base:Nat}{W:World}{v:Value}{ls:List Sm}: OwnAt base 115 6 encSm W v ls↔OwnAt base 115 6 encEn W v (ls.map (·.1)):=by
 unfold OwnAt;rw[List.length_map,List.flatMap_map];exact Iff.rfl
theorem sm_list:∀(l:List Tab.En),(∀x∈l,There x)→∃ls:List Sm,l=ls.map (·.1)
 | [],_=>⟨[],rfl⟩
 |x::l,h=>by
  obtain⟨ls,e⟩:=sm_list l fun y hy=>h y (List.mem_cons_of_mem _ hy)
  exact⟨⟨x,h x (List.mem_cons_self ..)⟩::ls,by rw[List.map_cons,←e]⟩
theorem sortEnts_any(base:Nat)(W:World)(v:Value)(l:List Tab.En)(h:OwnAt base 115 6 encEn W v l)(hth:∀x∈l,There x)(hl:l.length≤1000000):
  Calls Tryz.prog 222 #[v,.func (.func 223) #[] #[]] W (SortPostE base W v l):=by
 rcases OwnAt.form h with ⟨rfl,hn⟩|⟨b,cap,rfl,hb,hc,hm⟩
 ·subst hn;have h1:Calls Tryz.prog 222 #[.slice none 0 0,.func (.func 223) #[] #[]] W _:=sortNone_any (.func (.func 223) #[] #[]) W;refine h1.mono fun e w' ⟨he,hw⟩=>?_
  subst hw;exact⟨he,[],h,List.Perm.refl _,List.Pairwise.nil,fun _ _ _=>rfl,Nat.le_refl _,fun _ g _=>g⟩
 ·obtain⟨ls,rfl⟩:=sm_list l hth;rw[List.length_map] at hl hc ⊢;have ho:=ownSm.2 h;rw[List.length_map] at ho;obtain⟨hh,hb1,hb2⟩:=own_holdsKG encSm_len (by decide) ho;have hcon:=AnyQ.slices_SortFunc Tryz.sortEnt 6 Tryz.isAgg115 Tryz.sizeOf115 encSm encSm_len (fun x=>encEn_one x.1) cmpSm swoSm 223 #[] b 0 cap ls.toArray W enters223 (fun m os dk _ x y=>cmpEn_any x y _) hh hb2 (by simp;omega);have hcon2:Calls Tryz.prog 222 #[.slice (some ⟨b,0,none⟩) ls.length cap,.func (.func 223) #[] #[]] W _:=hcon;refine hcon2.mono fun e w' ⟨he,d',n,os,hp,hs,hw⟩=>?_
  obtain⟨p1,p2,p3⟩:=hp;have hsz:d'.size=ls.length:=by rw[p1];simp
  have hperm:d'.toList.Perm ls:=by
   have e1:d'.extract 0 ls.toArray.size=d':=by rw[show ls.toArray.size=d'.size from by rw[p1]];simp
   have e2:ls.toArray.extract 0 ls.toArray.size=ls.toArray:=by simp
   rw[e1,e2] at p3;exact p3
  obtain⟨q1,q2,q3⟩:=own_ofSortG (m:=n) (os:=os) (lc':=d'.toList) encSm_len (by decide) ho (by simpa using hsz);have hw2:w'=sortWorldK encSm 6 W b 0 n d'.toList.toArray os:=by rw[hw]
  rw[←hw2] at q1 q2 q3;refine⟨he,d'.toList.map (·.1),ownSm.1 q1,hperm.map _,?_,fun q hq hne=>q2 q hq fun e=>hne (by rw[e];rfl),q3,fun w0 g hb0=>?_⟩
  ·rw[List.pairwise_map,List.pairwise_iff_getElem];intro i j hi hj hij;have hi':i<d'.size:=by simpa using hi
   have hj':j<d'.size:=by simpa using hj
   have h5:=hs i j (Nat.zero_le _) hij (by rw[←p1];exact hj');rw[getElem!_pos d' i hi',getElem!_pos d' j hj',ltSm] at h5;simp only[decide_eq_false_iff_not,Array.getElem_toList] at h5 ⊢;omega
  ·rw[hw2];unfold sortWorldK Sort.putRowK;exact grewOs (grewRow (grewAhead g _) (by omega)) _
def firstScope:Code→Option Code
 | .scope c=>some c
 |.seq a b=>match firstScope a with
  | some c=>some c
  | none=>firstScope b
 | .block _ c=>firstScope c
 | .loop c=>firstScope c
 | _=>none
def afterSkip:Option Code→Code
 | some (.seq .skip r)=>r
 | _=>.skip
noncomputable def tail76:Code:=afterSkip ((Tryz.f32.body.bind firstScope).bind fun c=>findLabel c 0)
theorem wp_scope_jumps1'{P:Program}{a:Act}{w:World}{Q:Exit→Act→World→Prop}{c rest:Code}(l:Nat)(J:Act→World→Prop)(μ:Act→World→Nat)(hf:findLabel c l=some (.seq .skip rest))
  (pass:∀a w,J a w→rest.wp P (Exit.jump l (fun a' w'=>J a' w'∧μ a' w'<μ a w) Q) a w)
  (first:(∀a w,J a w→rest.wp P (Exit.jump l J Q) a w)→c.wp P (Exit.jump l J Q) a w):(Code.scope c).wp P Q a w :=
 wp_scope_jumps l J μ hf (first fun a w h=>Code.wp_mono (fun e a' w' hq=>by
  cases e with
  | goto l'=>exact⟨hq.1,hq.2.1⟩
  | _=>exact hq) (pass a w h)) (fun a w h=>wp_skip_seq (pass a w h))
def frame76(vn:Value)(B C:Nat)(u:Nat→Value): Act:={ tmps:=#[vn,u 1,.slice none 0 0,.pointer (some ⟨B,0,none⟩),.pointer (some ⟨C,0,none⟩),u 5,u 6,u 7,u 8,u 9,u 10,u 11,u 12,u 13,u 14,u 15,u 16,u 17,u 18,u 19,u 20,u 21,u 22,u 23,u 24,u 25,u 26,u 27,u 28,u 29,u 30,u 31,u 32,u 33,u 34],defers:=[] }
theorem arr35(t:Array Value)(h:t.size=35): t=#[t.getD 0 undef,t.getD 1 undef,t.getD 2 undef,t.getD 3 undef,t.getD 4 undef,t.getD 5 undef,t.getD 6 undef,t.getD 7 undef,t.getD 8 undef,t.getD 9 undef,t.getD 10 undef,t.getD 11 undef,t.getD 12 undef,t.getD 13 undef,t.getD 14 undef,t.getD 15 undef,t.getD 16 undef,t.getD 17 undef,t.getD 18 undef,t.getD 19 undef,t.getD 20 undef,t.getD 21 undef,t.getD 22 undef,t.getD 23 undef,t.getD 24 undef,t.getD 25 undef,t.getD 26 undef,t.getD 27 undef,t.getD 28 undef,t.getD 29 undef,t.getD 30 undef,t.getD 31 undef,t.getD 32 undef,t.getD 33 undef,t.getD 34 undef]:=by
 have e:t=(Array.range 35).map fun i=>t.getD i undef:=by
  refine Array.ext (by simp[h]) fun i h1 h2=>?_
  simp only[Array.getElem_map,Array.getElem_range];rw[Array.getD_eq_getD_getElem?,Array.getElem?_eq_getElem h1];rfl
 have e2:Array.range 35=#[0,1,2,3,4,5,6,7,8,9,10,11,12,13,14,15,16,17,18,19,20,21,22,23,24,25,26,27,28,29,30,31,32,33,34]:=by decide +kernel
 rw[e2] at e;exact e.trans (by simp)
structure Frame76 (vn:Value) (B C:Nat) (a:Act):Prop where
 n:a.tmps.size=35
 d:a.defers=[]
 v:a.tmps[0]? = some vn
 r:a.tmps[2]? = some (.slice none 0 0)
 b:a.tmps[3]? = some (.pointer (some ⟨B,0,none⟩))
 c:a.tmps[4]? = some (.pointer (some ⟨C,0,none⟩))
theorem Frame76.get{vn:Value}{B C:Nat}{a:Act}(h:Frame76 vn B C a): ∃u,a=frame76 vn B C u:=by
 obtain⟨t,d⟩:=a;obtain⟨h1,h2,h3,h4,h5,h6⟩:=h;simp only at h1 h2 h3 h4 h5 h6;refine⟨fun i=>t.getD i undef,?_⟩;have e:=arr35 t h1;have g:∀i v,t[i]? = some v→t.getD i undef=v:=fun i v h=>by rw[Array.getD_eq_getD_getElem?,h];rfl
 rw[g 0 _ h3,g 2 _ h4,g 3 _ h5,g 4 _ h6] at e;unfold frame76;rw[←e,h2]
structure NormAt (w w1:World) (B base:Nat) (vn:Value) (lc:List NdC) (l':List Gr.Nd):Prop where
 own:NodesOwn base w1 vn lc
 ins:NodesIn base w1 lc l'
 b:∃c,w1.heap[B]? = some (.cells c 43)
 small:Small l'
 l19:l'.length≤19
def Jump76(w:World)(B C:Nat)(l:List Gr.Nd)(a':Act)(w':World): Prop:=∃(w1:World) (base:Nat) (vn vo:Value) (lc:List NdC) (l':List Gr.Nd) (out:List Int),
 NormAt w w1 B base vn lc l'∧l'.Perm l∧Frame76 vn B C a'∧SortAt w w1 B C w' vo out∧Gr.Ord l' out∧Gr.sortG l' (l'.length+1-out.length) out=Gr.sortG l' (l'.length+1) []
def mu76(B n:Nat)(_:Act)(w':World): Nat:=n+1-sliceLen ((w'.cell? ⟨B,0,none⟩).getD undef)
def End76(w:World)(l:List Gr.Nd)(a':Act)(w':World): Prop:=∃(v:Value) (l':List Gr.Nd),a'.tmps[2]? = some v∧a'.defers=[]∧IntsAt w' v (Gr.sortG l' (l'.length+1) [])∧l'.Perm l∧Grew w w'
theorem infoInt1:(Tryz.prog.info? 3).map (fun i=>(i.zero,i.size,i.bytes))=some (some (.int .i64 0),1,8):=by kernel_rfl
theorem encN_one(x:Int): ∀u∈encN x,u.oneCell'=true:=by intro u hu;simp[encN] at hu;subst hu;rfl
theorem int_at(W:World)(x:Int)(t:TypeId)(b:Nat){c:Array Value}(hc:c=#[.int .i64 x])(hb:b=W.heap.size): ∀j u,(([x]:List Int).flatMap encN)[j]? = some u→(W.alloc (.cells c t)).cell? ⟨b,j,none⟩=some u:=by
 subst hc;intro j u hu;rw[new_cells W _ t b hb j];simpa [encN] using hu
theorem sortG_stop{l:List Gr.Nd}{out:List Int}(h:Gr.nextS l out=none): ∀k,Gr.sortG l k out=out
 | 0=>rfl
 | k+1=>by rw[Gr.sortG,h]
theorem sort_pass(w w1 W:World)(B C base:Nat)(vn vo:Value)(lc:List NdC)(l l':List Gr.Nd)(out:List Int)(u:Nat→Value)(Q:Exit→Act→World→Prop)
  (hn:NormAt w w1 B base vn lc l') (hp:l'.Perm l) (hs:SortAt w w1 B C W vo out) (ho:Gr.Ord l' out) (hg:Gr.sortG l' (l'.length+1-out.length) out=Gr.sortG l' (l'.length+1) [])
  (hret:∀a' w',End76 w l a' w'→Q .ret a' w') (hjump:∀a' w',Jump76 w B C l a' w'→mu76 B l.length a' w'<l.length+1-out.length→Q (.goto 0) a' w') :
  Code.wp Tryz.prog tail76 Q (frame76 vn B C u) W:=by
 conv=>arg 2;whnf
 unfold frame76;have HN:=hY hn;have HS:=hY hs;have HO:=hY ho;have HG:=hY hg;have HP:=hY hp;have HR:=hY hret;have HJ:=hY hjump;have hol:=ho.le;have hpl:=hp.length_eq;have hll:=hn.l19;have HPL:=hY hpl
 obtain⟨a,cap,rfl⟩:∃a cap,vn = .slice a l'.length cap:=by
  obtain⟨a,cap,e⟩:=(OwnAt.rows hn.own encNd_len).len;rw[Rel.len hn.ins] at e;exact⟨a,cap,e⟩
 clear hn hs ho hg hp hret hjump hpl;go_wp2
 go_loopg [12] l'.length (fun gg s12 wr=>∃k:Nat,k≤l'.length∧l'.length-k≤gg∧s12 = .int .i64 k∧Hid (SortAt w w1 B C wr vo out)∧Hid (∀j (hj:j<l'.length),j<k→standP out l'[j]=false))
 case atStart=>exact⟨0,Nat.zero_le _,by omega,rfl,HS,hY fun j _ h=>by omega⟩
 case round =>
  obtain⟨k,hk,hgg,rfl,HS2,HNO⟩:=hrel;by_cases hlt:k<l'.length
  ·obtain⟨a',cap',e,-,hx⟩:=(HS2.o.nodes HN.o.own HN.o.ins HN.o.b).openC;cases e;obtain⟨b,off,c,rfl,hb,hn,c0,c1,c2,c3,c4,c5,c6,c7,c8,c9,c10,c11,c12⟩:=hx k hlt;clear hx;have hst:=standP_eq out l'[k];generalize hy:l'[k]=y at *;have HY:=hY hy;have hid:=hn.id;have HNc:=hY hn;have hcB:=cell_of (o:=0) HS2.o.b;have hcC:=cell_of (o:=0) HS2.o.c;have hfB:=frozen_of (o:=0) HS2.o.b;simp at hcB hcC;have hpB:=Pre.mk (heap_lt HS2.o.b);have hpC:=Pre.mk (heap_lt HS2.o.c);have hrows:IntsAt wr vo out:=HS2.o.own.rows encN_len;have HP2:=hY fun W (g:Grew wr W)=>containsFn_any c.vf y.frm 85 #[.pointer (some ⟨C,0,none⟩)] (fun x=> !decide (x∈out)) W (HNc.o.f.grew g) enters85 (fun W' x g'=>sort2_pred out vo B C wr hrows hpB hcB hpC hcC W' x (g.trans g'))
   have eg:=enters84;obtain⟨ao,co,rfl⟩:=hrows.len;obtain⟨cid,kind,af,cf,ap,cp,par,r0,r1,r2,r3,r4,r5,r6,r7,rfl⟩:=HNc.o.lit;simp only at c0 c1 c2 c3 c4 c5 c6 c7 c8 c9 c10 c11 c12 hid HP2;rw[hid] at hst;have hp1:∀W,Grew wr W→Calls Tryz.prog 84 #[.int .i64 cid,.pointer (some ⟨B,0,none⟩)] W (Gives (.bool (decide (cid∈out))) W):=fun W g=>sort1_pred out _ B wr hrows hpB hcB W cid g
   clear hn hrows hy;generalize hq1:decide (cid∈out)=q1 at *;have HP1:=hY hp1;have HQ1:=hY hq1;clear hq1 hp1;generalize hq2:(y.frm.any fun f=> !decide (f∈out))=q2 at *;have HQ2:=hY hq2;clear hq2;have HID:=hY hid;have HST:=hY hst;clear hid hst
   cases q1 with
   |true =>
    go_wp2_with (go_at_fn 84;go_loud (refine(HP1.o _ gw).mono ?_;rintro e w2 ⟨rfl,R3,n3,rfl⟩))
    go_roundg (l'.length-(k+1))
    case measure=>omega
    case rel=>exact⟨k+1,by omega,by omega,by go_num,hY (HS2.o.grew gw),hY fun j hj h=>by
     rcases Nat.lt_or_ge j k with h1|h1
     ·exact HNO.o j hj h1
     ·obtain rfl:j=k:=by omega
      rw[HY.o,HST.o]
      rfl⟩
   |false =>
    cases q2 with
    |true =>
     go_wp2_with (first
      | (go_at_fn 84;refine(HP1.o _ gw).mono ?_;rintro e w2 ⟨rfl,R3,n3,rfl⟩)
      | (go_at_call 79;refine(HP2.o _ gw).mono ?_;rintro e w2 ⟨rfl,R4,n4,rfl⟩))
     go_roundg (l'.length-(k+1))
     case measure=>omega
     case rel=>exact⟨k+1,by omega,by omega,by go_num,hY (HS2.o.grew gw),hY fun j hj h=>by
      rcases Nat.lt_or_ge j k with h1|h1
      ·exact HNO.o j hj h1
      ·obtain rfl:j=k:=by omega
       rw[HY.o,HST.o]
       rfl⟩
    |false =>
     have hnx:Gr.nextS l' out=some cid:=by
      have hf:l'.find? (standP out)=some y:=List.find?_eq_some_iff_getElem.2 ⟨by rw[HST.o];rfl,k,hlt,HY.o,fun j hj=>by rw[HNO.o j (by omega) hj];rfl⟩;rw[standP_next,hf,Option.map_some,HID.o]
     have HNX:=hY hnx;have hlen:out.length+1≤1000000:=by omega
     clear hnx
     go_wp2_with (first
      | (go_at_fn 84;refine(HP1.o _ gw).mono ?_;rintro e w2 ⟨rfl,R3,n3,rfl⟩)
      | (go_at_call 79;refine(HP2.o _ gw).mono ?_;rintro e w2 ⟨rfl,R4,n4,rfl⟩)
      | (at_builtin;go_loud (refine wpList_ownK (w0:=w) rfl (.tmp 28) (.tmp 31) 43 _ _ _ _ [cid] rfl Tryz.underlying43 infoInt1 rfl (by decide) encN_len encN_one rfl (OwnAt.grew HS2.o.own gw) (HS2.o.g.trans gw) rfl (int_at _ _ _ _ rfl (by simp[go_sem])) (by simpa using hlen) (by decide) (by simp) ?_;intro v5 W5 hA;(have hs5:=(HS2.o.grew gw).push hA);obtain⟨hB5,hS5⟩:=hs5;obtain⟨b5,c5,rfl⟩:=own_some' hA.2.1 (by simp);(have cB5:=cell_of (o:=0) hB5);(have fB5:=frozen_of (o:=0) hB5);(have pB5:=Pre.mk (heap_lt hB5));simp at cB5;simp only[List.length_append,List.length_cons,List.length_nil,Nat.zero_add] at hS5;(have HS5:=hY hS5);clear hS5 hB5 hA)))
     go_step3
     have hmu:mu76 B l.length { tmps:=#[],defers:=[] } (W5.setCell ⟨B,0,none⟩ (.slice (some ⟨b5,0,none⟩) (out.length+1) c5))<l.length+1-out.length:=by
      unfold mu76;rw[cell_of (o:=0) HS5.o.b];simp[sliceLen];have:=HPL.o;omega
     have hgg2:Gr.sortG l' (l'.length+1-(out++[cid]).length) (out++[cid])=Gr.sortG l' (l'.length+1) []:=by
      rw[←HG.o,List.length_append,show l'.length+1-out.length=(l'.length-out.length)+1 by omega,Gr.sortG,HNX.o];simp
     exact HJ.o _ _ ⟨w1,base,_,_,lc,l',out++[cid],HN.o,HP.o,⟨rfl,rfl,rfl,rfl,rfl,rfl⟩,HS5.o,HO.o.step HNX.o,hgg2⟩ hmu
  ·obtain rfl:k=l'.length:=by omega
   have hcB:=cell_of (o:=0) HS2.o.b;simp at hcB;have hpB:=Pre.mk (heap_lt HS2.o.b);have hrows:=HS2.o.own.rows encN_len;obtain⟨ao,co,rfl⟩:=hrows.len;have HRW:=hY hrows;clear hrows
   have hnx:Gr.nextS l' out=none:=by
    rw[standP_next,List.find?_eq_none.2 fun x hx=>by
     obtain⟨j,hj,rfl⟩:=List.mem_iff_getElem.1 hx;rw[HNO.o j hj hj]
     simp]
    rfl
   have hend:out=Gr.sortG l' (l'.length+1) []:=by rw[←HG.o,sortG_stop hnx]
   have HE:=hY hend;clear hnx hend;go_wp2;refine HR.o _ _ ⟨_,l',rfl,rfl,?_,HP.o,HS2.o.g⟩;rw[←HE.o];exact HRW.o
def SortGives(l:List Gr.Nd)(w:World)(e:Ending)(w':World): Prop:=∃(v:Value) (l':List Gr.Nd),e = .returned v∧IntsAt w' v (Gr.sortG l' (l'.length+1) [])∧l'.Perm l∧Grew w w'
theorem sort_any(v:Value)(l:List Gr.Nd)(w:World)(hv:NodesAt w v l)(hs:Small l)(hl:l.length≤19): Calls Tryz.prog 32 #[v] w (SortGives l w):=by
 have HM:=hY fun W (g:Grew w W)=>norm_any v l W (hv.grew g) hs hl
 have HS:=hY hs;obtain⟨a,cap,rfl,hm,-⟩:=hv.openC;clear hv hs;go_enter Tryz.func32,Tryz.ntmps32;go_wp2;refine wp_scope_jumps1' 0 (Jump76 w w.heap.size (w.heap.size+1) l) (mu76 w.heap.size l.length) rfl ?_ ?_
 ·rintro a1 W ⟨w1,base,vn,vo,lc,l',out,hn,hp,hf,hs,ho,hg⟩;obtain⟨u,rfl⟩:=hf.get;have hle:=ho.le;refine sort_pass w w1 W _ _ base vn vo lc l l' out u _ hn hp hs ho hg (fun a' w' he=>?_) (fun a' w' hj hmu=>⟨rfl,hj,?_⟩)
  ·obtain⟨v,l2,h1,h2,h3,h4,h5⟩:=he;refine bodyPost_ret (v:=v) ?_ h2 ⟨v,l2,rfl,h3,h4,h5⟩;simp[results,Tryz.results32,go_sem];rw[h1];rfl
  ·have e:mu76 w.heap.size l.length (frame76 vn w.heap.size (w.heap.size+1) u) W=l.length+1-out.length:=by
    unfold mu76;rw[cell_of (o:=0) hs.b];obtain⟨ao,co,e⟩:=(hs.own.rows encN_len).len;rw[e];rfl
   rw[e];exact hmu
 ·intro hfirst
  go_wp2_with (go_at_call 55;go_loud (refine(HM.o _ gw).mono ?_;rintro e w1 ⟨vn,lc,l',rfl,ho,hi,hp,-,R3,n3,rfl⟩;obtain⟨an,cn,rfl⟩:=(OwnAt.rows ho encNd_len).len;(have HO:=hY ho);(have HI:=hY hi);(have HP:=hY hp);clear ho hi hp))
  go_step3
  have hB:(((w.alloc (.cells #[.slice none 0 0] 43)).alloc (.cells #[.func (.func 84) #[] #[.pointer (some ⟨w.heap.size,0,none⟩)]] 133)).more R3 n3).heap[w.heap.size]? = some (.cells #[.slice none 0 0] 43):=grew_heap gw (heap_new_at w _ _ rfl);have hC:(((w.alloc (.cells #[.slice none 0 0] 43)).alloc (.cells #[.func (.func 84) #[] #[.pointer (some ⟨w.heap.size,0,none⟩)]] 133)).more R3 n3).heap[w.heap.size+1]? = some (.cells #[.func (.func 84) #[] #[.pointer (some ⟨w.heap.size,0,none⟩)]] 133):=grew_heap (Grew.more (Grew.refl _) R3 n3) (heap_new_at (w.alloc (.cells #[.slice none 0 0] 43)) _ _ (by rw[World.size_alloc]))
  rename_i hK
  refine hK _ _ (hfirst _ _ ⟨_,_,.slice an lc.length cn,.slice none 0 0,lc,l',[],⟨HO.o,HI.o,⟨_,hB⟩,fun n hn=>HS.o n (HP.o.mem_iff.1 hn),by rw[HP.o.length_eq];exact hl⟩,HP.o,?_,
   ⟨Keep.ofGrew (Grew.refl _),gw,OwnAt.nil _,(fun q h=>by cases h),hB,hC,Nat.le_refl _⟩,Gr.Ord.nil _,by simp⟩)
  exact⟨rfl,rfl,rfl,rfl,rfl,rfl⟩
theorem nodeB_iff(l:List Gr.Nd)(n:Gr.Nd): nodeB l n=true↔Gr.OkP l n:=by
 unfold nodeB;simp only[Bool.and_eq_true,decide_eq_true_eq,Bool.not_eq_true']
 have hk:kindB n=true↔(n.kind=0∧n.id=0∧n.frm.length=0∧n.prog.length=0)∨(n.kind=1∧n.id≠0∧n.frm.length=1∧Vm.safe n.prog=true)∨(n.kind=2∧n.id≠0∧1≤n.frm.length∧n.frm.length≤3∧n.frm.Nodup∧n.prog.length=0):=by
  unfold kindB;by_cases k0:n.kind=0
  ·rw[if_pos k0];simp only[Bool.and_eq_true,decide_eq_true_eq,beq_iff_eq];constructor
   ·rintro⟨h1,h2,h3⟩;exact .inl ⟨k0,h1,h2,h3⟩
   ·rintro (⟨_,h1,h2,h3⟩|⟨h,_⟩|⟨h,_⟩)
    ·exact⟨h1,h2,h3⟩
    ·omega
    ·omega
  ·rw[if_neg k0];by_cases k1:n.kind=1
   ·rw[if_pos k1];simp only[Bool.and_eq_true,decide_eq_true_eq,bne_iff_ne];constructor
    ·rintro⟨h1,h2,h3⟩;exact .inr (.inl ⟨k1,h1,h2,h3⟩)
    ·rintro (⟨h,_⟩|⟨_,h1,h2,h3⟩|⟨h,_⟩)
     ·omega
     ·exact⟨h1,h2,h3⟩
     ·omega
   ·rw[if_neg k1];by_cases k2:n.kind=2
    ·rw[if_pos k2];simp only[Bool.and_eq_true,decide_eq_true_eq,bne_iff_ne];constructor
     ·rintro⟨h1,h2,h3,h4,h5⟩;exact .inr (.inr ⟨k2,h1,h2,h3,h4,h5⟩)
     ·rintro (⟨h,_⟩|⟨h,_⟩|⟨_,h1,h2,h3,h4,h5⟩)
      ·omega
      ·omega
      ·exact⟨h1,h2,h3,h4,h5⟩
    ·rw[if_neg k2];constructor
     ·intro h;cases h
     ·rintro (⟨h,_⟩|⟨h,_⟩|⟨h,_⟩)<;>omega
 have hr:routeB n=true↔1≤n.par∧n.par≤3∧∀g∈n.route,0≤g∧g<n.par:=by
  unfold routeB;simp only[Bool.and_eq_true,decide_eq_true_eq,Bool.not_eq_true',List.any_eq_false];refine and_congr_right fun _=>and_congr_right fun _=>forall_congr' fun g=>forall_congr' fun _=>?_
  unfold badT;simp only[Bool.or_eq_true,decide_eq_true_eq];omega
 have ha:n.frm.any (aboveB l)=false↔∀f∈n.frm,∃j m,Gr.find l f=some j∧l[j]? = some m∧m.kind≠2:=by
  rw[List.any_eq_false];refine forall_congr' fun f=>forall_congr' fun _=>?_
  unfold aboveB Gr.nodeOf
  cases hf:Gr.find l f with
  | none=>simp
  |some j =>
   obtain⟨m,hm,-⟩:=Gr.find_some hf;rw[Option.bind_some,hm];simp only[beq_iff_eq];constructor
   ·intro h;exact⟨j,m,rfl,hm,h⟩
   ·rintro⟨j',m',h1,h2,h3⟩;cases h1;rw[hm] at h2;cases h2;exact h3
 rw[hk,hr,ha];constructor
 ·rintro⟨h1,h2,h3,⟨h4,h5,h6⟩,h7⟩;exact⟨h1,h2,h3,h4,h5,h6,h7⟩
 ·rintro⟨h1,h2,h3,h4,h5,h6,h7⟩;exact⟨h1,h2,h3,⟨h4,h5,h6⟩,h7⟩
open Classical in
noncomputable def checkR(l:List Gr.Nd): Int:=if 8<l.length then 6 else if Gr.RightR l then 0 else 10
theorem checkR_long{l:List Gr.Nd}(h:8<l.length): checkR l=6:=by unfold checkR;rw[if_pos h]
theorem checkR_bad{l:List Gr.Nd}(h8:l.length≤8)(h:¬Gr.RightR l): checkR l=10:=by unfold checkR;rw[if_neg (by omega),if_neg h]
theorem checkR_ok{l:List Gr.Nd}(h8:l.length≤8)(h:Gr.RightR l): checkR l=0:=by unfold checkR;rw[if_neg (by omega),if_pos h]
theorem right_self(l:List Gr.Nd): Gr.RightR l↔Gr.RightP l l:=Gr.right_iff (List.Perm.refl l)
def idsT(l:List Gr.Nd)(k:Nat): List Int:=(l.take k).map (·.id)
theorem idsT_succ{l:List Gr.Nd}{k:Nat}(h:k<l.length): idsT l (k+1)=idsT l k++[l[k].id]:=by
 unfold idsT;rw[List.take_succ_eq_append_getElem h,List.map_append];rfl
theorem check_graph(v:Value)(l:List Gr.Nd)(w:World)(hv:NodesAt w v l)(hs:Small l): Calls Tryz.prog 7 #[v] w (Gives (.int .i64 (checkR l)) w):=by
 have HV:=hY hv;have HS:=hY hs;obtain⟨a,cap,rfl,hm,-⟩:=hv.openC;clear hv hs;by_cases h8:8<l.length
 ·rw[checkR_long h8];have h8':(8:Int)<(l.length:Int):=by omega
  go_enter Tryz.func7,Tryz.ntmps7;go_wp2;go_ret;refine⟨rfl,?_⟩;exact gw
 ·have h8':¬(8:Int)<(l.length:Int):=by omega
  go_enter Tryz.func7,Tryz.ntmps7;go_wp2
  go_loopg [3,11] l.length (fun gg s3 s11 wr=>∃(k:Nat) (vk:Value),k≤l.length∧l.length-k≤gg∧s11 = .int .i64 k∧vk=s3∧Hid (Grew w wr)∧Hid (OwnAt w.heap.size 3 1 encN wr vk (idsT l k))∧Hid (∀j (hj:j<l.length),j<k→nodeB l l[j]=true))
  case atStart=>exact⟨0,_,Nat.zero_le _,by omega,rfl,rfl,hY gw,hY (OwnAt.nil _),hY fun j _ h=>by omega⟩
  case round =>
   obtain⟨k,vk,hk,hgg,rfl,rfl,HG,HO,HNO⟩:=hrel;obtain⟨ak,ck,rfl⟩:=(HO.o.rows encN_len).len;have hil:(idsT l k).length=k:=by unfold idsT;rw[List.length_map,List.length_take,Nat.min_eq_left hk]
   rw[hil] at HO;rw[hil];by_cases hlt:k<l.length
   ·obtain⟨a',cap',e,-,hx⟩:=(HV.o.grew HG.o).openC;cases e;obtain⟨b,off,c,rfl,hb,hn,c0,c1,c2,c3,c4,c5,c6,c7,c8,c9,c10,c11,c12⟩:=hx k hlt;have hst:=(HS.o _ (List.getElem_mem hlt)).1;have hsu:=idsT_succ hlt;have HSU:=hY hsu;have HIL:=hY hil;have hw1:=nodeB_iff l l[k];clear hx hsu hil;generalize hy:l[k]=y at *;have HY:=hY hy;have HB:=hY fun W (g:Grew wr W)=>node_any c y _ l W (hn.grew g) ((HV.o.grew HG.o).grew g) HS.o hst
    have hid:=hn.id;have HNc:=hY hn;obtain⟨cid,kind,af,cf,ap,cp,par,r0,r1,r2,r3,r4,r5,r6,r7,rfl⟩:=hn.lit;simp only at c0 c1 c2 c3 c4 c5 c6 c7 c8 c9 c10 c11 c12 hid HB;have HID:=hY hid;have HW1:=hY hw1;clear hn hid hw1 hy
    cases hq:nodeB l y with
    |false =>
     have hbad:¬Gr.RightR l:=fun h=>by
      have h2:=((right_self l).1 h).ok y (by rw[←HY.o];exact List.getElem_mem hlt);rw[←HW1.o,hq] at h2;cases h2
     have he:=checkR_bad (by omega) hbad;have HE:=hY he;rw[hq] at HB;clear he hbad hq
     go_wp2_with (go_at_call 29;refine(HB.o _ gw).mono ?_;rintro e w1 ⟨rfl,R3,n3,rfl⟩)
     go_ret;refine⟨by rw[HE.o];rfl,HG.o.trans ?_⟩
     exact gw
    |true =>
     have HQ:=hY hq;rw[hq] at HB;clear hq
     go_wp2_with (first
      | (go_at_call 29;refine(HB.o _ gw).mono ?_;rintro e w1 ⟨rfl,R3,n3,rfl⟩)
      | (at_builtin;go_loud (refine wpList_ownK (w0:=w) rfl (.tmp 19) (.tmp 22) 43 _ _ _ _ [cid] rfl Tryz.underlying43 infoInt1 rfl (by decide) encN_len encN_one rfl (OwnAt.grew HO.o gw) (HG.o.trans gw) rfl (int_at _ _ _ _ rfl (by simp[go_sem])) (by rw[HIL.o];simp;omega) (by decide) (by simp) ?_;intro v5 W5 hA;(have HA:=hY hA);clear hA)))
     have hr1:OwnAt w.heap.size 3 1 encN W5 v5 (idsT l (k+1)):=by
      rw[HSU.o,HID.o];exact HA.o.2.1
     have HR1:=hY hr1;clear hr1
     go_roundg (l.length-(k+1))
     case measure=>omega
     case rel=>exact⟨k+1,_,by omega,by omega,by go_num,rfl,hY HA.o.1,HR1,hY fun j hj h=>by
      rcases Nat.lt_or_ge j k with h1|h1
      ·exact HNO.o j hj h1
      ·obtain rfl:j=k:=by omega
       rw[HY.o]
       exact HQ.o⟩
   ·obtain rfl:k=l.length:=by omega
    have hids:idsT l l.length=Gr.ids l:=by unfold idsT Gr.ids;rw[List.take_length]
    rw[hids] at HO
    have hall:∀n∈l,Gr.OkP l n:=fun n hn=>by
     obtain⟨j,hj,rfl⟩:=List.mem_iff_getElem.1 hn;exact(nodeB_iff l _).1 (HNO.o j hj hj)
    have HALL:=hY hall;have HU:=hY fun W (g:Grew wr W)=>unlike_any _ (Gr.ids l) W ((HO.o.rows encN_len).grew g) (by unfold Gr.ids;rw[List.length_map];omega)
    have HC:=hY fun W (g:Grew wr W)=>containsI_any _ (Gr.ids l) 0 W ((HO.o.rows encN_len).grew g)
    have HT:=hY fun W (g:Grew wr W)=>sort_any _ l W ((HV.o.grew HG.o).grew g) HS.o (by omega)
    clear hil hids hall;by_cases hu:(Gr.ids l).Nodup
    ·by_cases hz:(0:Int)∈Gr.ids l
     ·rw[decide_eq_true hu] at HU;rw[decide_eq_true hz] at HC;have HUZ:=hY (And.intro hu hz);clear hu hz
      go_wp2_with (first
       | (go_at_call 30;refine(HU.o _ gw).mono ?_;rintro e w1 ⟨rfl,R3,n3,rfl⟩)
       | (go_at_call 31;refine(HC.o _ gw).mono ?_;rintro e w1 ⟨rfl,hw1⟩;obtain rfl:=hw1)
       | (go_at_call 32;refine(HT.o _ gw).mono ?_;rintro e w1 ⟨vs,l',rfl,hr,hp,R4,n4,rfl⟩;obtain⟨as1,cs1,rfl⟩:=hr.len;(have HP:=hY hp);clear hr hp))
      ·rename_i hx
       have he:(Gr.sortG l' (l'.length+1) []).length≠l.length:=by simp at hx;omega
       have hok:=checkR_bad (by omega) fun h=>he ((Gr.right_iff HP.o.symm).1 h).so
       have HOK:=hY hok;clear hok hx he;go_ret;exact⟨by rw[HOK.o];rfl,HG.o.trans gw⟩
      ·rename_i hx
       have he:(Gr.sortG l' (l'.length+1) []).length=l.length:=by simp at hx;omega
       have hok:=checkR_ok (by omega) ((Gr.right_iff HP.o.symm).2 ⟨by omega,HALL.o,HUZ.o.1,HUZ.o.2,he⟩);have HOK:=hY hok;clear hok hx he;go_ret;exact⟨by rw[HOK.o];rfl,HG.o.trans gw⟩
     ·have hok:=checkR_bad (by omega) fun h=>hz ((right_self l).1 h).z
      have HOK:=hY hok;rw[decide_eq_true hu] at HU;rw[decide_eq_false hz] at HC;clear hok hu hz
      go_wp2_with (first
       | (go_at_call 30;refine(HU.o _ gw).mono ?_;rintro e w1 ⟨rfl,R3,n3,rfl⟩)
       | (go_at_call 31;refine(HC.o _ gw).mono ?_;rintro e w1 ⟨rfl,hw1⟩;obtain rfl:=hw1))
      go_ret;exact⟨by rw[HOK.o];rfl,HG.o.trans gw⟩
    ·have hok:=checkR_bad (by omega) fun h=>hu ((right_self l).1 h).un
     have HOK:=hY hok;rw[decide_eq_false hu] at HU;clear hok hu
     go_wp2_with (go_at_call 30;refine(HU.o _ gw).mono ?_;rintro e w1 ⟨rfl,R3,n3,rfl⟩)
     go_ret;exact⟨by rw[HOK.o];rfl,HG.o.trans gw⟩
end Go.Proofs.YtipgfjihdglocaaGreat
