import Derived.Test.YtipgfjihdglocaaGreatCw35
import Derived.Test.YtipgfjihdglocaaGreatCw27
import Derived.Test.YtipgfjihdglocaaGreatCw33
import Derived.Test.YtipgfjihdglocaaGreatCw34
import Derived.Test.YtipgfjihdglocaaGreatCw9
import Derived.Test.YtipgfjihdglocaaGreatCw22
import Derived.Test.YtipgfjihdglocaaGreatCw5
import Derived.Test.YtipgfjihdglocaaGreatCw21
import Derived.Test.YtipgfjihdglocaaGreatCw15
import Derived.Test.YtipgfjihdglocaaGreatCw18
import Derived.Test.YtipgfjihdglocaaGreatCw11
import Derived.Deep.QuietTactic
import Derived.BigQuiet
set_option linter.unusedSimpArgs false
set_option linter.unusedVariables false
set_option maxRecDepth 100000
set_option maxHeartbeats 64000000
namespace Go.Proofs.YtipgfjihdglocaaGreat
open Go.RowKit Ga
open Classical in
noncomputable def planR(p:List Gr.Stp): List UInt8×Int:=if Gr.OkPl fitsP p then (Gr.putPl putI p,0) else ([],11)
theorem planR_ok{p:List Gr.Stp}(h:Gr.OkPl fitsP p): planR p=(Gr.putPl putI p,0):=by unfold planR;exact if_pos h
theorem planR_no{p:List Gr.Stp}(h:¬Gr.OkPl fitsP p): planR p=([],11):=by unfold planR;exact if_neg h
theorem plan_back{p:List Gr.Stp}{t:List UInt8}(h1:1≤p.length)(h6:p.length≤6)(h0:(Gr.getPl getL t).2=0)(hk:eqBy sameSt p (Gr.getPl getL t).1=true): Gr.OkPl fitsP p:=by
 obtain⟨⟨-,-,hs⟩,-,hcl⟩:=Gr.getPl_can codecI (s:=t) (q:=(Gr.getPl getL t).1) (by rw[←h0]);have he:=(same_iff _ _).1 hk;rw[Gr.map_clean hcl] at he;refine⟨h1,h6,fun s hsp=>?_⟩;have hm:Gr.cleanS s∈(Gr.getPl getL t).1:=he▸List.mem_map.2 ⟨s,hsp,rfl⟩;obtain⟨hk,hn⟩:=hs _ hm;rw[Gr.clean_clean] at hn;exact⟨Gr.kind_clean hk.1,hn⟩
theorem plan_forth{p:List Gr.Stp}{t:List UInt8}(ht:Gr.OkPl fitsP p→t=Gr.putPl putI p)(h:Gr.OkPl fitsP p): (Gr.getPl getL t).2=0∧eqBy sameSt p (Gr.getPl getL t).1=true:=by
 rw[ht h,Gr.getPl_put codecI h];refine⟨rfl,(same_iff _ _).2 ?_⟩;simp only[List.map_map];exact List.map_congr_left fun x _=>(Gr.clean_clean x).symm
theorem plan16_any(v:Value)(p:List Gr.Stp)(w:World)(hv:StepsAt w v p)(hs:∀s∈p,s.nd.frm.length≤100∧s.nd.prog.length≤1000): Calls Tryz.prog 10 #[v] w (Gives (.tuple #[str (planR p).1,.int .i64 (planR p).2]) w):=by
 have HV:=hY hv;have HS:=hY hs;obtain⟨a,cap,rfl,hm,-⟩:=hv.openC;clear hv hs;by_cases h1:1≤p.length
 case neg =>
  have h1':(p.length:Int)<1:=by omega
  rw[planR_no fun h=>h1 h.1];clear h1;go_enter Tryz.func10,Tryz.ntmps10;go_wp2;exact bodyPost_ret (v:=.tuple #[.string ⟨#[]⟩,.int .i64 11]) (by simp[results,Tryz.results10,go_sem]) rfl ⟨rfl,gw⟩
 have h1':¬(p.length:Int)<1:=by omega
 by_cases h6:p.length≤6
 case neg =>
  have h6':(6:Int)<(p.length:Int):=by omega
  rw[planR_no fun h=>h6 h.2.1];clear h1 h6;go_enter Tryz.func10,Tryz.ntmps10;go_wp2;exact bodyPost_ret (v:=.tuple #[.string ⟨#[]⟩,.int .i64 11]) (by simp[results,Tryz.results10,go_sem]) rfl ⟨rfl,gw⟩
 have h6':¬(6:Int)<(p.length:Int):=by omega
 have HPUT:=hY fun W (g:Grew w W)=>putPlan_any _ p W (HV.o.grew g) HS.o h6
 have HR:=hY (rfl:planR p=planR p);generalize hpr:planR p=pr at *;obtain⟨pr1,pr2⟩:=pr;have HPR:=hY hpr;clear hpr HR;go_enter Tryz.func10,Tryz.ntmps10
 go_wp2_with fail
 refine(HPUT.o _ gw).mono ?_;rintro e w1 ⟨t,rfl,ht1,ht2,R1,n1,rfl⟩;have HB:=hY fun a b=>plan_back (p:=p) (t:=t) h1 h6 a b
 have HF:=hY (plan_forth (p:=p) (t:=t) ht2);have HT2:=hY ht2;have HG:=hY fun W=>getPlan_any t W (by omega)
 have HK:=hY fun W (g:Grew w W)=>kept_any _ p t W (HV.o.grew g) (fun s hs=>by have:=HS.o s hs;omega) (by omega)
 clear ht2;generalize hgp:Gr.getPl getL t=r at *;obtain⟨q,er⟩:=r;simp only at HB HF HG HK;clear hgp;by_cases he:er=0
 case neg =>
  have hb:(er != 0)=true:=by rw[bne_iff_ne];exact he
  have hp:=planR_no (fun h=>he (HF.o h).1);rw[HPR.o] at hp;cases hp;clear he
  go_wp2_with (go_at_call 44;refine(HG.o _).mono ?_;rintro e w1 ⟨v1,rfl,h1,R2,n2,rfl⟩;simp only)
  exact bodyPost_ret (v:=.tuple #[.string ⟨#[]⟩,.int .i64 11]) (by simp[results,Tryz.results10,go_sem]) rfl ⟨rfl,gw⟩
 subst he;cases hk:eqBy sameSt p q
 ·have hp:=planR_no (fun h=>by have h2:=(HF.o h).2;rw[hk] at h2;cases h2);rw[HPR.o] at hp;cases hp;have HKK:=hY hk;clear hk
  go_wp2_with (first
   | (go_at_call 44;refine(HG.o _).mono ?_;rintro e w1 ⟨v1,rfl,h1,R2,n2,rfl⟩;simp only)
   | (go_at_call 45;refine(HK.o _ gw).mono ?_;rintro e w1 ⟨rfl,R3,n3,rfl⟩;rw[HKK.o]))
  exact bodyPost_ret (v:=.tuple #[.string ⟨#[]⟩,.int .i64 11]) (by simp[results,Tryz.results10,go_sem]) rfl ⟨rfl,gw⟩
 ·have hok:=HB.o rfl hk;have hp:=planR_ok hok;rw[HPR.o] at hp;cases hp;have HKK:=hY hk;have htt:=HT2.o hok;subst htt;clear hk hok
  go_wp2_with (first
   | (go_at_call 44;refine(HG.o _).mono ?_;rintro e w1 ⟨v1,rfl,h1,R2,n2,rfl⟩;simp only)
   | (go_at_call 45;refine(HK.o _ gw).mono ?_;rintro e w1 ⟨rfl,R3,n3,rfl⟩;rw[HKK.o]))
  exact bodyPost_ret (v:=.tuple #[.string ⟨(Gr.putPl putI p).toArray⟩,.int .i64 0]) (by simp[results,Tryz.results10,go_sem]) rfl ⟨rfl,gw⟩
theorem putPl_len{p:List Gr.Stp}(h:Gr.OkPl fitsP p): (Gr.putPl putI p).length≤10000:=by
 obtain⟨h1,h6,hs⟩:=h
 have hf:∀l:List Gr.Stp,(∀s∈l,Gr.OkS fitsP s)→(l.flatMap (Gr.putSt putI)).length≤l.length*400:=by
  intro l
  induction l with
  | nil=>intro _;simp
  |cons x l ih =>
   intro h;have h1:=ih fun s hs=>h s (List.mem_cons_of_mem _ hs)
   have h2:=putNd_len (h x (List.mem_cons_self ..)).2;rw[List.flatMap_cons,List.length_append,List.length_cons];unfold Gr.putSt at *;simp only[List.length_append,Oc.be_len] at *;omega
 have:=hf p hs;unfold Gr.putPl;rw[List.length_append,Oc.be_len];omega
theorem getPl_self{p:List Gr.Stp}(h:Gr.OkPl fitsP p)(w:World): Calls Tryz.prog 44 #[.string ⟨(Gr.putPl putI p).toArray⟩] w (GetPlPost (p.map Gr.cleanS,0) w):=by
 have h1:=getPlan_any (Gr.putPl putI p) w (by have:=putPl_len h;omega);rw[Gr.getPl_put codecI h] at h1;exact h1
def numB(n m:Int): Bool:=decide (0≤n)&&decide (n≤m)
theorem numB_iff{n m:Int}: numB n m=true↔0≤n∧n≤m:=by unfold numB;simp
theorem packNum_any(n m:Int)(w:World): Calls Tryz.prog 138 #[.int .i64 n,.int .i64 m] w fun e w'=>e = .returned (.bool (numB n m))∧w=w':=by
 by_cases h1:0≤n
 ·have hb:numB n m=decide (n≤m):=by unfold numB;simp[h1]
  rw[hb];clear hb;go_enter Tryz.func138,Tryz.ntmps138;go_wp2;go_ret;exact⟨rfl,rfl⟩
 ·have hb:numB n m=false:=by unfold numB;simp[h1]
  rw[hb];clear hb;go_enter Tryz.func138,Tryz.ntmps138;go_wp2;go_ret;exact⟨rfl,rfl⟩
theorem right1_any(x:Int)(w:World): Calls Tryz.prog 140 #[.int .i64 x] w (Gives (.bool (!(numB x 400))) w):=by
 go_enter Tryz.func140,Tryz.ntmps140
 go_wp2_with (go_at_call 138;refine(packNum_any _ _ _).mono ?_;rintro e w1 ⟨rfl,rfl⟩)
 go_ret;exact⟨rfl,gw⟩
def lineB(x:Gr.Ln): Bool:=numB x.sink 7&&(numB x.frm 7&&(numB x.key 63&&rightV x.v))
theorem line_any(si fr ky p0 q0:Int)(w:World): Calls Tryz.prog 142 #[.agg #[.int .i64 si,.int .i64 fr,.int .i64 ky,.int .i64 p0,.int .i64 q0]] w (Gives (.bool (lineB ⟨si,fr,ky,(p0,q0)⟩)) w):=by
 obtain⟨r,hr⟩:∃r,lineB ⟨si,fr,ky,(p0,q0)⟩=r:=⟨_,rfl⟩;rw[hr];have hr2:r=(numB si 7&&(numB fr 7&&(numB ky 63&&rightV (p0,q0)))):=hr.symm;clear hr;have HN1:=hY fun W=>packNum_any si 7 W
 have HN2:=hY fun W=>packNum_any fr 7 W
 have HN3:=hY fun W=>packNum_any ky 63 W
 have HN4:=hY fun W=>right_xy p0 q0 W
 generalize numB si 7=b1 at *;generalize numB fr 7=b2 at *;generalize numB ky 63=b3 at *;generalize rightV (p0,q0)=b4 at *;cases b1<;>cases b2<;>cases b3
 all_goals
  (have HR:=hY hr2;clear hr2)
  go_enter Tryz.func142,Tryz.ntmps142
  go_wp2_with fail
  refine(HN1.o _).mono ?_;rintro e w1 ⟨rfl,rfl⟩
  go_wp2_with (first
   | (go_at_call 185;refine(HN4.o _).mono ?_;rintro e w1 ⟨rfl,R1,n1,rfl⟩)
   | (go_at_call 138;((with_reducible refine(HN2.o _).mono ?_);rintro e w1 ⟨rfl,rfl⟩))
   | (go_at_call 138;((with_reducible refine(HN3.o _).mono ?_);rintro e w1 ⟨rfl,rfl⟩)))
  go_ret;exact⟨by rw[HR.o];rfl,gw⟩
theorem right2_any(x:Gr.Ln)(w:World): Calls Tryz.prog 141 #[.agg #[.int .i64 x.sink,.int .i64 x.frm,.int .i64 x.key,.int .i64 x.v.1,.int .i64 x.v.2]] w (Gives (.bool (!(lineB x))) w):=by
 obtain⟨si,fr,ky,⟨p0,q0⟩⟩:=x;simp only;have HL:=hY fun W=>line_any si fr ky p0 q0 W
 generalize lineB ⟨si,fr,ky,(p0,q0)⟩=b at *;go_enter Tryz.func141,Tryz.ntmps141
 go_wp2_with (go_at_call 142;refine(HL.o _).mono ?_;rintro e w1 ⟨rfl,R1,n1,rfl⟩)
 go_ret;exact⟨rfl,gw⟩
open Classical in
noncomputable def plB(p:List Gr.Stp): Bool:=decide (p=[]∨(Gr.OkPl fitsP p∧p.map Gr.cleanS=p))
open Classical in
theorem plB_nil:plB []=true:=decide_eq_true (.inl rfl)
open Classical in
theorem plB_no{p:List Gr.Stp}(h0:p≠[])(h:¬Gr.OkPl fitsP p): plB p=false:=decide_eq_false (fun q=>q.elim h0 fun q=>h q.1)
open Classical in
theorem plB_ok{p:List Gr.Stp}(h0:p≠[])(h:Gr.OkPl fitsP p): plB p=eqBy eqSt p (p.map Gr.cleanS):=by
 rw[Bool.eq_iff_iff,exact_iff];unfold plB;rw[decide_eq_true_eq];exact⟨fun q=>q.elim (fun e=>absurd e h0) fun q=>q.2.symm,fun q=>.inr ⟨h,q.symm⟩⟩
theorem planned_any(v:Value)(p:List Gr.Stp)(w:World)(hv:StepsAt w v p)(hs:∀s∈p,s.nd.frm.length≤100∧s.nd.prog.length≤1000): Calls Tryz.prog 143 #[v] w (Gives (.bool (plB p)) w):=by
 have HP:=hY fun W (g:Grew w W)=>plan16_any _ p W (hv.grew g) hs
 have HV:=hY hv;have HS:=hY hs;obtain⟨a,cap,rfl,hm,-⟩:=hv.openC;clear hv hs;by_cases h0:p=[]
 ·subst h0;rw[plB_nil];show Calls Tryz.prog _ #[.slice a 0 cap] w _;go_enter Tryz.func143,Tryz.ntmps143;go_wp2;go_ret;exact⟨rfl,gw⟩
 have hl0:((p.length:Int)==0)=false:=by
  rw[beq_eq_false_iff_ne];intro e;exact h0 (List.eq_nil_of_length_eq_zero (by omega))
 by_cases hok:Gr.OkPl fitsP p
 case neg =>
  rw[plB_no h0 hok];rw[planR_no hok] at HP;clear h0 hok;go_enter Tryz.func143,Tryz.ntmps143
  go_wp2_with (go_at_call 10;refine(HP.o _ gw).mono ?_;rintro e w1 ⟨rfl,R1,n1,rfl⟩;simp only)
  go_ret;exact⟨rfl,gw⟩
 rw[plB_ok h0 hok];rw[planR_ok hok] at HP;have HG:=hY fun W=>getPl_self hok W
 have HQS:=hY (fun s (h:s∈p.map Gr.cleanS)=>(show s.nd.frm.length≤1000∧s.nd.prog.length≤1000 from by obtain⟨y,hy,rfl⟩:=List.mem_map.1 h;have:=clean_small (HS.o y hy);omega));clear h0 hok;generalize Gr.putPl putI p=t at *;generalize p.map Gr.cleanS=q at *;go_enter Tryz.func143,Tryz.ntmps143
 go_wp2_with (first
  | (go_at_call 10;refine(HP.o _ gw).mono ?_;rintro e w1 ⟨rfl,R1,n1,rfl⟩;simp only)
  | (go_at_call 44;refine(HG.o _).mono ?_;rintro e w1 ⟨v1,rfl,h1,R2,n2,rfl⟩;simp only at h1;obtain⟨a1,cap1,rfl,hm1,-⟩:=h1.openC;(have H1:=hY h1);clear h1;simp only)
  | (go_at_call 72;refine(eqFnExact_any _ _ p q _ (HV.o.grew gw) (H1.o.grew gw) (fun s hs=>by have:=HS.o s hs;omega) HQS.o).mono ?_;rintro e w1 ⟨rfl,R3,n3,rfl⟩))
 go_ret;exact⟨rfl,gw⟩
theorem fits50_any(n m:Int)(w:World): Calls Tryz.prog 60 #[.int .i64 n,.int .i64 m] w fun e w'=>e = .returned (.bool (numB n m))∧w=w':=by
 by_cases h1:0≤n
 ·have hb:numB n m=decide (n≤m):=by unfold numB;simp[h1]
  rw[hb];clear hb;go_enter Tryz.func60,Tryz.ntmps60;go_wp2;go_ret;exact⟨rfl,rfl⟩
 ·have hb:numB n m=false:=by unfold numB;simp[h1]
  rw[hb];clear hb;go_enter Tryz.func60,Tryz.ntmps60;go_wp2;go_ret;exact⟨rfl,rfl⟩
end Go.Proofs.YtipgfjihdglocaaGreat
