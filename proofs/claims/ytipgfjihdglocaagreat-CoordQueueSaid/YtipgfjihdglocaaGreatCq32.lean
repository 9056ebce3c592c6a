import Derived.Test.YtipgfjihdglocaaGreatCq23
import Derived.Test.YtipgfjihdglocaaGreatCq26
import Derived.Test.YtipgfjihdglocaaGreatCq29
import Derived.Test.YtipgfjihdglocaaGreatCq28
import Derived.Test.YtipgfjihdglocaaGreatCq11
set_option linter.unusedSimpArgs false
set_option linter.unusedVariables false
set_option maxRecDepth 100000
set_option maxHeartbeats 64000000
namespace Go.Proofs.YtipgfjihdglocaaGreat
open Go.RowKit Ga
theorem textR_tx{most:Int}(hm:0≤most)(z:List UInt8): (Gr.txS most (z,0)).1=(textR most z).1∧(Gr.txS most (z,0)).2.2=(textR most z).2.1∧((textR most z).2.1=0→(Gr.txS most (z,0)).2.1=(textR most z).2.2)∧((textR most z).1≠[]→(textR most z).2.1=0)∧((textR most z).1.length:Int)≤most:=by
 have hn:Gr.numS 0 most (z,0)=((within z 0 most).1,((within z 0 most).2.2,(within z 0 most).2.1)):=by unfold Gr.numS;rw[if_neg (by simp)];rfl
 unfold Gr.txS;rw[hn];unfold within textR;by_cases h4:z.length<4
 ·simp[h4,hm]
 ·rw[if_neg h4,if_neg h4];by_cases h5:Oc.num z<0∨most<Oc.num z
  ·rw[if_pos h5,if_pos h5];simp[hm]
  ·rw[if_neg h5,if_neg h5];by_cases h6:(z.length:Int)-4<Oc.num z
   ·rw[if_pos h6];have h7:z.length-4<(Oc.num z).toNat:=by omega
    simp[hm,h7]
   ·rw[if_neg h6];have h7:¬z.length-4<(Oc.num z).toNat:=by omega
    simp[h7,List.drop_drop];omega
theorem StepsIn.lower{base base':Nat}{w:World}{lc:List StC}{l:List Gr.Stp}(h:StepsIn base w lc l)(hb:base'≤base): StepsIn base' w lc l :=
 Rel.mono (fun c s ⟨h1,h2⟩=>⟨h1,h2.low hb⟩) h
def RdPlan(w0 W:World)(A B:Nat)(r:List Gr.Stp×Gr.Rs)(e:Ending)(W':World): Prop:=∃v lc s',e = .returned v∧StepsOwn W.heap.size W' v lc∧StepsIn W.heap.size W' lc r.1∧RdAt w0.heap.size A B W' s'∧s'.2=r.2.2∧(s'.2=0→s'=r.2)∧Grew w0 W'∧Keep2 A B W W'
theorem rdPlan_any(w0:World)(A B:Nat)(s:Gr.Rs)(W:World)(h:RdAt w0.heap.size A B W s)(hg:Grew w0 W)(hs:s.1.length≤1000000):
  Calls Tryz.prog 102 #[.pointer (some ⟨A,0,none⟩)] W (RdPlan w0 W A B (Gr.plS getL s)):=by
 have H:=hY h;have HG:=hY hg;have c0:=cell_of (o:=0) h.2.1;have c1:=cell_of (o:=1) h.2.1;have hAl:=heap_lt h.2.1;have hpA:=Pre.mk (heap_lt h.2.1);simp at c0 c1;obtain⟨z,x⟩:=s;simp only at hs c1;by_cases he:x=0
 ·subst he;have ht:=textR_tx (most:=8000) (by decide) z;have hw:=octGetText_any w0 B z 8000 W h.2.2 hg hs;obtain⟨t,er,z',hr⟩:∃t er z',textR 8000 z=(t,er,z'):=⟨_,_,_,rfl⟩;obtain⟨T,S,hS⟩:∃T S,Gr.txS 8000 (z,0)=(T,S):=⟨_,_,rfl⟩;rw[hr,hS] at ht;rw[hr] at hw;simp only at ht hw;obtain⟨rfl,t2,t3,t4,t5⟩:=ht;have HW:=hY hw;clear h hg hw hr;cases hb:T.isEmpty
  ·have hne:T≠[]:=by rintro rfl;cases hb
   obtain rfl:=t4 hne;obtain⟨S1,S2⟩:=S;simp only at t2 t3;obtain rfl:=t2;obtain rfl:S1=z':=by simpa using t3
   have hpl:Gr.plS getL (z,0)=((Gr.getPl getL T).1,(S1,(Gr.getPl getL T).2)):=by
    unfold Gr.plS;rw[hS];simp only;rw[if_neg hne]
   rw[hpl];have HP:=hY fun w=>getPlanO_any T w (by omega)
   obtain⟨l,e2,hl⟩:∃l e2,Gr.getPl getL T=(l,e2):=⟨_,_,rfl⟩;rw[hl] at HP ⊢;simp only at HP ⊢;clear hpl hS hne t3 t4 t5 hl;go_enter Tryz.func102,Tryz.ntmps102
   go_wp2_with (first
    | (go_at_call 150;refine HW.o.mono ?_;rintro e w1 ⟨rfl,hr1,hg1,hk1⟩;obtain⟨hA1,hR1⟩:=RdAt.put (e:=0) H.o hr1 hk1;(have d1:=cell_of (o:=1) hA1);(have g1:=frozen_of (o:=1) hA1);(have pA1:=Pre.mk (heap_lt hA1));simp at d1;(have HR1:=hY hR1);(have HG1:=hY hg1);(have HK1:=hY hk1);clear hr1 hg1 hk1 hA1 hR1)
    | (go_at_call 44;refine(HP.o _).mono ?_;rintro e w2 ⟨v2,lc,rfl,o2,i2,q2⟩;(have HR2:=hY (HR1.o.grew q2));(have HQ2:=hY q2);(have e1:=cell_of (o:=1) HR2.o.2.1);(have f1:=frozen_of (o:=1) HR2.o.2.1);(have pA2:=Pre.mk (heap_lt HR2.o.2.1));simp at e1;(have O2:=hY o2);(have I2:=hY i2);clear o2 i2 q2))
   have hA0:w0.heap.size≤A:=H.o.1;have hbut:But A w2 (w2.setCell ⟨A,1,none⟩ (.int .i64 e2)):=fun q hq=>set_other fun e=>hq e.symm
   have hR3:RdAt w0.heap.size A B (w2.setCell ⟨A,1,none⟩ (.int .i64 e2)) (S1,e2):=⟨hA0,by rw[set_self HR2.o.2.1];rfl,HR2.o.2.2.1,by rw[set_other HR2.o.ne];exact HR2.o.2.2.2⟩;refine bodyPost_ret (v:=v2) ?_ rfl ⟨v2,lc,(S1,e2),rfl,?_,?_,hR3,rfl,fun _=>rfl,?_,?_⟩
   ·simp[results,Tryz.results102,go_sem]
   ·exact OwnAt.low (OwnAt.but O2.out hbut HR2.o.2.1 (by decide)) (by rw[World.size_setCell];exact HK1.o.1)
   ·exact StepsIn.lower (I2.out.map fun _ _ o=>o.but hbut HR2.o.2.1) (by rw[World.size_setCell];exact HK1.o.1)
   ·exact((HG1.o.set hA0 _).trans HQ2.o).set hA0 _
   ·exact(((Keep2.ofKeep HK1.o).trans Keep2.set).trans (Keep2.ofGrew HQ2.o)).trans Keep2.set
  ·obtain rfl:T=[]:=List.isEmpty_iff.1 hb
   have hpl:Gr.plS getL (z,0)=([],S):=by
    unfold Gr.plS;rw[hS];simp only;rw[if_pos trivial]
   rw[hpl];clear hpl hS t4 t5;go_enter Tryz.func102,Tryz.ntmps102
   go_wp2_with (go_at_call 150;refine HW.o.mono ?_;rintro e w1 ⟨rfl,hr1,hg1,hk1⟩;obtain⟨hA1,hR1⟩:=RdAt.put (e:=er) H.o hr1 hk1;(have d1:=cell_of (o:=1) hA1);(have g1:=frozen_of (o:=1) hA1);(have pA1:=Pre.mk (heap_lt hA1));simp at d1;(have HR1:=hY hR1);(have HG1:=hY hg1);(have HK1:=hY hk1);clear hr1 hg1 hk1 hA1 hR1)
   go_ret;exact⟨_,[],(z',er),rfl,OwnAt.nil _,trivial,HR1.o,t2.symm,fun q=>by obtain⟨S1,S2⟩:=S;simp only at t2 t3 q ⊢;rw[t2,t3 q],HG1.o.set H.o.1 _,(Keep2.ofKeep HK1.o).trans Keep2.set⟩
 ·have hpl:Gr.plS getL (z,x)=([],(z,x)):=by
   have ht:Gr.txS 8000 (z,x)=([],(z,x)):=by
    unfold Gr.txS;rw[Gr.numS_err _ _ (s:=(z,x)) he];exact if_pos he
   unfold Gr.plS;rw[ht];exact if_pos rfl
  rw[hpl];have he2:(x != 0)=true:=by rw[bne_iff_ne];exact he
  clear h hg he;go_enter Tryz.func102,Tryz.ntmps102;go_wp2;go_ret;exact⟨_,[],(z,x),rfl,OwnAt.nil _,trivial,H.o,rfl,fun _=>rfl,HG.o,Keep2.refl _ _ _⟩
theorem pass1_right:Gr.RightR passL1:=by
 refine⟨by decide,?_,by decide,?_⟩
 ·intro i n h
  match i with
  |0 =>
   cases h;refine⟨by decide,by decide,rfl,by decide,by decide,by decide,by decide,by decide,by decide,by decide,by decide,by decide,by decide,by decide,by decide,?_⟩;intro k f hk
   cases hk
  |1 =>
   cases h;refine⟨by decide,by decide,rfl,by decide,by decide,by decide,by decide,by decide,by decide,by decide,by decide,by decide,by decide,by decide,by decide,?_⟩;intro k f hk
   match k with
   |0 =>
    cases hk
    exact⟨⟨0,_,rfl,rfl,by decide⟩,by simp⟩
   | k+1=>cases hk
  | i+2=>cases h
 ·intro n hn;simp only[passL1,List.mem_cons,List.not_mem_nil,or_false] at hn;rcases hn with rfl|rfl<;>rfl
theorem pass1_small:Small passL1:=by unfold Small;decide
theorem pass1_tasks:(tasksOf passL1).length=2:=by decide
end Go.Proofs.YtipgfjihdglocaaGreat
