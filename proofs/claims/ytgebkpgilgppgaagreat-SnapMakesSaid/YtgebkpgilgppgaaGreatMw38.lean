import Derived.Test.YtgebkpgilgppgaaGreatMw36
import Derived.Test.YtgebkpgilgppgaaGreatMw27
import Derived.Test.YtgebkpgilgppgaaGreatMw34
import Derived.Test.YtgebkpgilgppgaaGreatMw35
import Derived.Test.YtgebkpgilgppgaaGreatMw9
import Derived.Test.YtgebkpgilgppgaaGreatMw25
import Derived.Test.YtgebkpgilgppgaaGreatMw5
import Derived.Test.YtgebkpgilgppgaaGreatMw21
import Derived.Test.YtgebkpgilgppgaaGreatMw15
import Derived.Test.YtgebkpgilgppgaaGreatMw19
import Derived.Test.YtgebkpgilgppgaaGreatMw11
import Derived.Deep.QuietTactic
import Derived.BigQuiet
set_option linter.unusedSimpArgs false
set_option linter.unusedVariables false
set_option maxRecDepth 100000
set_option maxHeartbeats 64000000
namespace Go.Proofs.YtgebkpgilgppgaaGreat
open Go.RowKit Ga
open Classical in
noncomputable def Ki(p:List Gr.Stp): List UInt8×Int:=if Gr.OkPl BF p then (Gr.putPl BZ p,0) else ([],11)
theorem Tf{p:List Gr.Stp}(h:Gr.OkPl BF p): Ki p=(Gr.putPl BZ p,0):=by unfold Ki;exact if_pos h
theorem Il{p:List Gr.Stp}(h:¬Gr.OkPl BF p): Ki p=([],11):=by unfold Ki;exact if_neg h
theorem Yx{p:List Gr.Stp}{t:List UInt8}(h1:1≤p.length)(h6:p.length≤6)(h0:(Gr.getPl BK t).2=0)(hk:eqBy FV p (Gr.getPl BK t).1=true): Gr.OkPl BF p:=by
 obtain⟨⟨-,-,hs⟩,-,hcl⟩:=Gr.getPl_can Uv (s:=t) (q:=(Gr.getPl BK t).1) (by rw[←h0]);have he:=(same_iff _ _).1 hk;rw[Gr.map_clean hcl] at he;refine⟨h1,h6,fun s hsp=>?_⟩;have hm:Gr.cleanS s∈(Gr.getPl BK t).1:=he▸List.mem_map.2 ⟨s,hsp,rfl⟩;obtain⟨hk,hn⟩:=hs _ hm;rw[Gr.clean_clean] at hn;exact⟨Gr.kind_clean hk.1,hn⟩
theorem Vu{p:List Gr.Stp}{t:List UInt8}(ht:Gr.OkPl BF p→t=Gr.putPl BZ p)(h:Gr.OkPl BF p): (Gr.getPl BK t).2=0∧eqBy FV p (Gr.getPl BK t).1=true:=by
 rw[ht h,Gr.getPl_put Uv h];refine⟨rfl,(same_iff _ _).2 ?_⟩;simp only[List.map_map];exact List.map_congr_left fun x _=>(Gr.clean_clean x).symm
theorem Vv(v:Value)(p:List Gr.Stp)(w:World)(hv:BA w v p)(hs:∀s∈p,s.nd.frm.length≤100∧s.nd.prog.length≤1000): Calls Tryz.prog 69 #[v] w (Ac (.tuple #[str (Ki p).1,.int .i64 (Ki p).2]) w):=by
 have HV:=hY hv;have HS:=hY hs;obtain⟨a,cap,rfl,hm,-⟩:=hv.openC;clear hv hs;by_cases h1:1≤p.length
 case neg =>
  have h1':(p.length:Int)<1:=by omega
  rw[Il fun h=>h1 h.1];clear h1;go_enter Tryz.func69,Tryz.ntmps69;go_wp2;exact bodyPost_ret (v:=.tuple #[.string ⟨#[]⟩,.int .i64 11]) (by simp[results,Tryz.results69,go_sem]) rfl ⟨rfl,gw⟩
 have h1':¬(p.length:Int)<1:=by omega
 by_cases h6:p.length≤6
 case neg =>
  have h6':(6:Int)<(p.length:Int):=by omega
  rw[Il fun h=>h6 h.2.1];clear h1 h6;go_enter Tryz.func69,Tryz.ntmps69;go_wp2;exact bodyPost_ret (v:=.tuple #[.string ⟨#[]⟩,.int .i64 11]) (by simp[results,Tryz.results69,go_sem]) rfl ⟨rfl,gw⟩
 have h6':¬(6:Int)<(p.length:Int):=by omega
 have HPUT:=hY fun W (g:AA w W)=>Tu _ p W (HV.o.grew g) HS.o h6
 have HR:=hY (rfl:Ki p=Ki p);generalize hpr:Ki p=pr at *;obtain⟨pr1,pr2⟩:=pr;have HPR:=hY hpr;clear hpr HR;go_enter Tryz.func69,Tryz.ntmps69
 go_wp2_with fail
 refine(HPUT.o _ gw).mono ?_;rintro e w1 ⟨t,rfl,ht1,ht2,R1,n1,rfl⟩;have HB:=hY fun a b=>Yx (p:=p) (t:=t) h1 h6 a b
 have HF:=hY (Vu (p:=p) (t:=t) ht2);have HT2:=hY ht2;have HG:=hY fun W=>Im t W (by omega)
 have HK:=hY fun W (g:AA w W)=>A04 _ p t W (HV.o.grew g) (fun s hs=>by have:=HS.o s hs;omega) (by omega)
 clear ht2;generalize hgp:Gr.getPl BK t=r at *;obtain⟨q,er⟩:=r;simp only at HB HF HG HK;clear hgp;by_cases he:er=0
 case neg =>
  have hb:(er != 0)=true:=by rw[bne_iff_ne];exact he
  have hp:=Il (fun h=>he (HF.o h).1);rw[HPR.o] at hp;cases hp;clear he
  go_wp2_with (go_at_call 70;refine(HG.o _).mono ?_;rintro e w1 ⟨v1,rfl,h1,R2,n2,rfl⟩;simp only)
  exact bodyPost_ret (v:=.tuple #[.string ⟨#[]⟩,.int .i64 11]) (by simp[results,Tryz.results69,go_sem]) rfl ⟨rfl,gw⟩
 subst he;cases hk:eqBy FV p q
 ·have hp:=Il (fun h=>by have h2:=(HF.o h).2;rw[hk] at h2;cases h2);rw[HPR.o] at hp;cases hp;have HKK:=hY hk;clear hk
  go_wp2_with (first
   | (go_at_call 70;refine(HG.o _).mono ?_;rintro e w1 ⟨v1,rfl,h1,R2,n2,rfl⟩;simp only)
   | (go_at_call 103;refine(HK.o _ gw).mono ?_;rintro e w1 ⟨rfl,R3,n3,rfl⟩;rw[HKK.o]))
  exact bodyPost_ret (v:=.tuple #[.string ⟨#[]⟩,.int .i64 11]) (by simp[results,Tryz.results69,go_sem]) rfl ⟨rfl,gw⟩
 ·have hok:=HB.o rfl hk;have hp:=Tf hok;rw[HPR.o] at hp;cases hp;have HKK:=hY hk;have htt:=HT2.o hok;subst htt;clear hk hok
  go_wp2_with (first
   | (go_at_call 70;refine(HG.o _).mono ?_;rintro e w1 ⟨v1,rfl,h1,R2,n2,rfl⟩;simp only)
   | (go_at_call 103;refine(HK.o _ gw).mono ?_;rintro e w1 ⟨rfl,R3,n3,rfl⟩;rw[HKK.o]))
  exact bodyPost_ret (v:=.tuple #[.string ⟨(Gr.putPl BZ p).toArray⟩,.int .i64 0]) (by simp[results,Tryz.results69,go_sem]) rfl ⟨rfl,gw⟩
theorem Qx{p:List Gr.Stp}(h:Eo p=false): ∀s∈p,s.nd.frm.length≤100∧s.nd.prog.length≤1000:=by
 unfold Eo at h;simp only[Bool.or_eq_false_iff,decide_eq_false_iff_not,List.any_eq_false] at h;intro s hs;have h1:=h.2 s hs;unfold Cj Ia at h1;simp at h1;omega
theorem putPl_len{p:List Gr.Stp}(h:Gr.OkPl BF p): (Gr.putPl BZ p).length≤10000:=by
 obtain⟨h1,h6,hs⟩:=h
 have hf:∀l:List Gr.Stp,(∀s∈l,Gr.OkS BF s)→(l.flatMap (Gr.putSt BZ)).length≤l.length*400:=by
  intro l
  induction l with
  | nil=>intro _;simp
  |cons x l ih =>
   intro h;have h1:=ih fun s hs=>h s (List.mem_cons_of_mem _ hs)
   have h2:=putNd_len (h x (List.mem_cons_self ..)).2;rw[List.flatMap_cons,List.length_append,List.length_cons];unfold Gr.putSt at *;simp only[List.length_append,Oc.be_len] at *;omega
 have:=hf p hs;unfold Gr.putPl;rw[List.length_append,Oc.be_len];omega
theorem VL{p:List Gr.Stp}(h:Gr.OkPl BF p)(w:World): Calls Tryz.prog 70 #[.string ⟨(Gr.putPl BZ p).toArray⟩] w (QG (p.map Gr.cleanS,0) w):=by
 have h1:=Im (Gr.putPl BZ p) w (by have:=putPl_len h;omega);rw[Gr.getPl_put Uv h] at h1;exact h1
def BR(n m:Int): Bool:=decide (0≤n)&&decide (n≤m)
theorem DX{n m:Int}: BR n m=true↔0≤n∧n≤m:=by unfold BR;simp
theorem Aq(n m:Int)(w:World): Calls Tryz.prog 29 #[.int .i64 n,.int .i64 m] w fun e w'=>e = .returned (.bool (BR n m))∧w=w':=by
 by_cases h1:0≤n
 ·have hb:BR n m=decide (n≤m):=by unfold BR;simp[h1]
  rw[hb];clear hb;go_enter Tryz.func29,Tryz.ntmps29;go_wp2;go_ret;exact⟨rfl,rfl⟩
 ·have hb:BR n m=false:=by unfold BR;simp[h1]
  rw[hb];clear hb;go_enter Tryz.func29,Tryz.ntmps29;go_wp2;go_ret;exact⟨rfl,rfl⟩
theorem Gt(x:Int)(w:World): Calls Tryz.prog 31 #[.int .i64 x] w (Ac (.bool (!(BR x 400))) w):=by
 go_enter Tryz.func31,Tryz.ntmps31
 go_wp2_with (go_at_call 29;refine(Aq _ _ _).mono ?_;rintro e w1 ⟨rfl,rfl⟩)
 go_ret;exact⟨rfl,gw⟩
def DY(x:Gr.Ln): Bool:=BR x.sink 7&&(BR x.frm 7&&(BR x.key 63&&Ao x.v))
theorem A0h(si fr ky p0 q0:Int)(w:World): Calls Tryz.prog 33 #[.agg #[.int .i64 si,.int .i64 fr,.int .i64 ky,.int .i64 p0,.int .i64 q0]] w (Ac (.bool (DY ⟨si,fr,ky,(p0,q0)⟩)) w):=by
 obtain⟨r,hr⟩:∃r,DY ⟨si,fr,ky,(p0,q0)⟩=r:=⟨_,rfl⟩;rw[hr];have hr2:r=(BR si 7&&(BR fr 7&&(BR ky 63&&Ao (p0,q0)))):=hr.symm;clear hr;have HN1:=hY fun W=>Aq si 7 W
 have HN2:=hY fun W=>Aq fr 7 W
 have HN3:=hY fun W=>Aq ky 63 W
 have HN4:=hY fun W=>Ed p0 q0 W
 generalize BR si 7=b1 at *;generalize BR fr 7=b2 at *;generalize BR ky 63=b3 at *;generalize Ao (p0,q0)=b4 at *;cases b1<;>cases b2<;>cases b3
 all_goals
  (have HR:=hY hr2;clear hr2)
  go_enter Tryz.func33,Tryz.ntmps33
  go_wp2_with fail
  refine(HN1.o _).mono ?_;rintro e w1 ⟨rfl,rfl⟩
  go_wp2_with (first
   | (go_at_call 68;refine(HN4.o _).mono ?_;rintro e w1 ⟨rfl,R1,n1,rfl⟩)
   | (go_at_call 29;((with_reducible refine(HN2.o _).mono ?_);rintro e w1 ⟨rfl,rfl⟩))
   | (go_at_call 29;((with_reducible refine(HN3.o _).mono ?_);rintro e w1 ⟨rfl,rfl⟩)))
  go_ret;exact⟨by rw[HR.o];rfl,gw⟩
theorem NV(x:Gr.Ln)(w:World): Calls Tryz.prog 32 #[.agg #[.int .i64 x.sink,.int .i64 x.frm,.int .i64 x.key,.int .i64 x.v.1,.int .i64 x.v.2]] w (Ac (.bool (!(DY x))) w):=by
 obtain⟨si,fr,ky,⟨p0,q0⟩⟩:=x;simp only;have HL:=hY fun W=>A0h si fr ky p0 q0 W
 generalize DY ⟨si,fr,ky,(p0,q0)⟩=b at *;go_enter Tryz.func32,Tryz.ntmps32
 go_wp2_with (go_at_call 33;refine(HL.o _).mono ?_;rintro e w1 ⟨rfl,R1,n1,rfl⟩)
 go_ret;exact⟨rfl,gw⟩
open Classical in
noncomputable def VR(p:List Gr.Stp): Bool:=decide (p=[]∨(Gr.OkPl BF p∧p.map Gr.cleanS=p))
open Classical in
theorem A2H:VR []=true:=decide_eq_true (.inl rfl)
open Classical in
theorem A3g{p:List Gr.Stp}(h0:p≠[])(h:¬Gr.OkPl BF p): VR p=false:=decide_eq_false (fun q=>q.elim h0 fun q=>h q.1)
open Classical in
theorem A3h{p:List Gr.Stp}(h0:p≠[])(h:Gr.OkPl BF p): VR p=eqBy Gl p (p.map Gr.cleanS):=by
 rw[Bool.eq_iff_iff,Y2];unfold VR;rw[decide_eq_true_eq];exact⟨fun q=>q.elim (fun e=>absurd e h0) fun q=>q.2.symm,fun q=>.inr ⟨h,q.symm⟩⟩
theorem D8(v:Value)(p:List Gr.Stp)(w:World)(hv:BA w v p)(hs:∀s∈p,s.nd.frm.length≤100∧s.nd.prog.length≤1000): Calls Tryz.prog 34 #[v] w (Ac (.bool (VR p)) w):=by
 have HP:=hY fun W (g:AA w W)=>Vv _ p W (hv.grew g) hs
 have HV:=hY hv;have HS:=hY hs;obtain⟨a,cap,rfl,hm,-⟩:=hv.openC;clear hv hs;by_cases h0:p=[]
 ·subst h0;rw[A2H];show Calls Tryz.prog _ #[.slice a 0 cap] w _;go_enter Tryz.func34,Tryz.ntmps34;go_wp2;go_ret;exact⟨rfl,gw⟩
 have hl0:((p.length:Int)==0)=false:=by
  rw[beq_eq_false_iff_ne];intro e;exact h0 (List.eq_nil_of_length_eq_zero (by omega))
 by_cases hok:Gr.OkPl BF p
 case neg =>
  rw[A3g h0 hok];rw[Il hok] at HP;clear h0 hok;go_enter Tryz.func34,Tryz.ntmps34
  go_wp2_with (go_at_call 69;refine(HP.o _ gw).mono ?_;rintro e w1 ⟨rfl,R1,n1,rfl⟩;simp only)
  go_ret;exact⟨rfl,gw⟩
 rw[A3h h0 hok];rw[Tf hok] at HP;have HG:=hY fun W=>VL hok W
 have HQS:=hY (fun s (h:s∈p.map Gr.cleanS)=>(show s.nd.frm.length≤1000∧s.nd.prog.length≤1000 from by obtain⟨y,hy,rfl⟩:=List.mem_map.1 h;have:=Ef (HS.o y hy);omega));clear h0 hok;generalize Gr.putPl BZ p=t at *;generalize p.map Gr.cleanS=q at *;go_enter Tryz.func34,Tryz.ntmps34
 go_wp2_with (first
  | (go_at_call 69;refine(HP.o _ gw).mono ?_;rintro e w1 ⟨rfl,R1,n1,rfl⟩;simp only)
  | (go_at_call 70;refine(HG.o _).mono ?_;rintro e w1 ⟨v1,rfl,h1,R2,n2,rfl⟩;simp only at h1;obtain⟨a1,cap1,rfl,hm1,-⟩:=h1.openC;(have H1:=hY h1);clear h1;simp only)
  | (go_at_call 71;refine(O6 _ _ p q _ (HV.o.grew gw) (H1.o.grew gw) (fun s hs=>by have:=HS.o s hs;omega) HQS.o).mono ?_;rintro e w1 ⟨rfl,R3,n3,rfl⟩))
 go_ret;exact⟨rfl,gw⟩
theorem Bg(n m:Int)(w:World): Calls Tryz.prog 45 #[.int .i64 n,.int .i64 m] w fun e w'=>e = .returned (.bool (BR n m))∧w=w':=by
 by_cases h1:0≤n
 ·have hb:BR n m=decide (n≤m):=by unfold BR;simp[h1]
  rw[hb];clear hb;go_enter Tryz.func45,Tryz.ntmps45;go_wp2;go_ret;exact⟨rfl,rfl⟩
 ·have hb:BR n m=false:=by unfold BR;simp[h1]
  rw[hb];clear hb;go_enter Tryz.func45,Tryz.ntmps45;go_wp2;go_ret;exact⟨rfl,rfl⟩
theorem O7(t:List UInt8)(ht:t.length≤1000000)(w:World): Calls Tryz.prog 51 #[.string ⟨t.toArray⟩] w (Ac (str (Oc.be t.length++t)) w):=by
 have HP:=hY fun W=>Et (t.length:Int) (BG (by omega) (by omega)) W
 have hl:¬9223372036854775807<(Oc.be (t.length:Int)).length+t.length:=by rw[Oc.be_len];omega
 have he:(⟨(Oc.be (t.length:Int)).toArray⟩:ByteArray)++⟨t.toArray⟩=⟨(Oc.be (t.length:Int)++t).toArray⟩:=by apply ByteArray.ext;simp
 go_enter Tryz.func51,Tryz.ntmps51
 go_wp2_with (go_at_call 90;refine(HP.o _).mono ?_;rintro e w1 ⟨rfl,R1,n1,rfl⟩)
 go_ret;exact⟨by simp[str,he],gw⟩
end Go.Proofs.YtgebkpgilgppgaaGreat
