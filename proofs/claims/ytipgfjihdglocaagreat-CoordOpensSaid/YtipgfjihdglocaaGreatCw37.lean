import Derived.Test.YtipgfjihdglocaaGreatCw36
import Derived.Test.YtipgfjihdglocaaGreatCw5
import Derived.Test.YtipgfjihdglocaaGreatCw21
import Derived.Deep.LoopGhost
import Derived.Test.YtipgfjihdglocaaGreatCw30
import Derived.Deep.QuietTactic
import Derived.BigQuiet
import Derived.Test.YtipgfjihdglocaaGreatCw11
import Derived.Test.YtipgfjihdglocaaGreatCw0
set_option linter.unusedSimpArgs false
set_option linter.unusedVariables false
set_option maxRecDepth 100000
set_option maxHeartbeats 64000000
namespace Go.Proofs.YtipgfjihdglocaaGreat
open Go.RowKit Ga
open Classical in
def parOf(g:List Gr.Nd): Int:=match Gr.nodeOf g 0 with
 | none=>0
 | some n=>n.par
open Classical in
noncomputable def rightB(m:Gr.Mf): Bool:=numB m.epoch 2147483647&&(numB m.plans 2147483647&&(decide (checkR m.graph=0)&&(sortedB m.graph&&(decide ((m.out.length:Int)≤4000)&&(plB m.plan&&(((m.offs.length:Int)==parOf m.graph)&&(!(m.offs.any fun x=> !(numB x 400))&&(entB m.ents m.graph&&(!(m.out.any fun x=> !(lineB x)))))))))))
theorem source_some{l:List Gr.Nd}(h:Gr.RightR l): ∃n,Gr.nodeOf l 0=some n:=by
 have hz:(0:Int)∈Gr.ids l:=((Gr.right_iff (List.Perm.refl l)).1 h).z;obtain⟨n,hn,e⟩:=List.mem_map.1 hz;have:=Gr.bind_find h.ids hn;rw[e] at this;exact⟨n,this⟩
open Classical in
theorem checkR_zero{l:List Gr.Nd}(h:checkR l=0): Gr.RightR l:=by
 unfold checkR at h;split at h
 ·cases h
 ·split at h
  ·assumption
  ·cases h
open Classical in
theorem manRight_1(c:MfC)(m:Gr.Mf)(w:World)(h:MfIs w c m)(hs:Small m.graph)(hp:∀s∈m.plan,s.nd.frm.length≤100∧s.nd.prog.length≤1000)(he:m.ents.length≤100000)(h1:(numB m.epoch 2147483647)=false): Calls Tryz.prog 90 #[.agg #[.int .i64 c.epoch,.int .i64 c.plans,.slice c.ao c.no c.co,.slice c.ag c.ng c.cg,.slice c.ae c.ne c.ce,.slice c.ax c.nx c.cx,.slice c.ap c.np c.cp]] w (Gives (.bool false) w):=by
 have e1:=h.epoch;have e2:=h.plans;have HG:=hY h.g;have HO:=hY h.o;have HE:=hY h.e;have HX:=hY h.x;have HP:=hY h.p;have HS:=hY hs;have HPS:=hY hp;obtain⟨ep,pl,ao,co,ag,cg,ae,ce,ax,cx,ap,cp,rfl⟩:=h.lit;simp only at e1 e2 HG HO HE HX HP;clear h hs hp;have hn1:=fun W=>packNum_any ep 2147483647 W
 rw[←e1,h1] at hn1;rw[e1] at hn1;have HN1:=hY hn1;clear hn1 e1 e2 h1;show Calls Tryz.prog _ #[.agg #[.int .i64 ep,.int .i64 pl,.slice ao m.offs.length co,.slice ag m.graph.length cg,.slice ae m.ents.length ce,.slice ax m.out.length cx,.slice ap m.plan.length cp]] w _;go_enter Tryz.func90,Tryz.ntmps90
 go_wp2_with (first
  | (go_at_call 138;((with_reducible refine(HN1.o _).mono ?_);rintro e w1 ⟨rfl,rfl⟩))
  | fail)
 go_ret;exact⟨rfl,gw⟩
open Classical in
theorem manRight_2(c:MfC)(m:Gr.Mf)(w:World)(h:MfIs w c m)(hs:Small m.graph)(hp:∀s∈m.plan,s.nd.frm.length≤100∧s.nd.prog.length≤1000)(he:m.ents.length≤100000)(h1:(numB m.epoch 2147483647)=true)(h2:(numB m.plans 2147483647)=false): Calls Tryz.prog 90 #[.agg #[.int .i64 c.epoch,.int .i64 c.plans,.slice c.ao c.no c.co,.slice c.ag c.ng c.cg,.slice c.ae c.ne c.ce,.slice c.ax c.nx c.cx,.slice c.ap c.np c.cp]] w (Gives (.bool false) w):=by
 have e1:=h.epoch;have e2:=h.plans;have HG:=hY h.g;have HO:=hY h.o;have HE:=hY h.e;have HX:=hY h.x;have HP:=hY h.p;have HS:=hY hs;have HPS:=hY hp;obtain⟨ep,pl,ao,co,ag,cg,ae,ce,ax,cx,ap,cp,rfl⟩:=h.lit;simp only at e1 e2 HG HO HE HX HP;clear h hs hp;have hn1:=fun W=>packNum_any ep 2147483647 W
 rw[←e1,h1] at hn1;have hn2:=fun W=>packNum_any pl 2147483647 W
 rw[←e2,h2] at hn2;rw[e1] at hn1;rw[e2] at hn2;have HN1:=hY hn1;have HN2:=hY hn2;clear hn1 e1 e2 h1 h2 hn2;show Calls Tryz.prog _ #[.agg #[.int .i64 ep,.int .i64 pl,.slice ao m.offs.length co,.slice ag m.graph.length cg,.slice ae m.ents.length ce,.slice ax m.out.length cx,.slice ap m.plan.length cp]] w _;go_enter Tryz.func90,Tryz.ntmps90
 go_wp2_with (first
  | (go_at_call 138;((with_reducible refine(HN1.o _).mono ?_);rintro e w1 ⟨rfl,rfl⟩))
  | (go_at_call 138;((with_reducible refine(HN2.o _).mono ?_);rintro e w1 ⟨rfl,rfl⟩))
  | fail)
 go_ret;exact⟨rfl,gw⟩
open Classical in
theorem manRight_3(c:MfC)(m:Gr.Mf)(w:World)(h:MfIs w c m)(hs:Small m.graph)(hp:∀s∈m.plan,s.nd.frm.length≤100∧s.nd.prog.length≤1000)(he:m.ents.length≤100000)(h1:(numB m.epoch 2147483647)=true)(h2:(numB m.plans 2147483647)=true)(h3:(decide (checkR m.graph=0))=false): Calls Tryz.prog 90 #[.agg #[.int .i64 c.epoch,.int .i64 c.plans,.slice c.ao c.no c.co,.slice c.ag c.ng c.cg,.slice c.ae c.ne c.ce,.slice c.ax c.nx c.cx,.slice c.ap c.np c.cp]] w (Gives (.bool false) w):=by
 have e1:=h.epoch;have e2:=h.plans;have HG:=hY h.g;have HO:=hY h.o;have HE:=hY h.e;have HX:=hY h.x;have HP:=hY h.p;have HS:=hY hs;have HPS:=hY hp;obtain⟨ep,pl,ao,co,ag,cg,ae,ce,ax,cx,ap,cp,rfl⟩:=h.lit;simp only at e1 e2 HG HO HE HX HP;clear h hs hp;have hn1:=fun W=>packNum_any ep 2147483647 W
 rw[←e1,h1] at hn1;have hn2:=fun W=>packNum_any pl 2147483647 W
 rw[←e2,h2] at hn2;rw[e1] at hn1;rw[e2] at hn2;have HN1:=hY hn1;have HN2:=hY hn2;have hc0:¬checkR m.graph=0:=of_decide_eq_false h3;have hc1:(checkR m.graph != 0)=true:=by rw[bne_iff_ne];exact hc0
 clear hc0;clear hn1 e1 e2 h1 h2 h3 hn2;show Calls Tryz.prog _ #[.agg #[.int .i64 ep,.int .i64 pl,.slice ao m.offs.length co,.slice ag m.graph.length cg,.slice ae m.ents.length ce,.slice ax m.out.length cx,.slice ap m.plan.length cp]] w _;go_enter Tryz.func90,Tryz.ntmps90
 go_wp2_with (first
  | (go_at_call 138;((with_reducible refine(HN1.o _).mono ?_);rintro e w1 ⟨rfl,rfl⟩))
  | (go_at_call 138;((with_reducible refine(HN2.o _).mono ?_);rintro e w1 ⟨rfl,rfl⟩))
  | (go_at_call 7;refine(check_graph _ m.graph _ (HG.o.grew gw) HS.o).mono ?_;rintro e w1 ⟨rfl,R1,n1,rfl⟩)
  | fail)
 go_ret;exact⟨rfl,gw⟩
open Classical in
theorem manRight_4(c:MfC)(m:Gr.Mf)(w:World)(h:MfIs w c m)(hs:Small m.graph)(hp:∀s∈m.plan,s.nd.frm.length≤100∧s.nd.prog.length≤1000)(he:m.ents.length≤100000)(h1:(numB m.epoch 2147483647)=true)(h2:(numB m.plans 2147483647)=true)(h3:(decide (checkR m.graph=0))=true)(h4:(sortedB m.graph)=false): Calls Tryz.prog 90 #[.agg #[.int .i64 c.epoch,.int .i64 c.plans,.slice c.ao c.no c.co,.slice c.ag c.ng c.cg,.slice c.ae c.ne c.ce,.slice c.ax c.nx c.cx,.slice c.ap c.np c.cp]] w (Gives (.bool false) w):=by
 have e1:=h.epoch;have e2:=h.plans;have HG:=hY h.g;have HO:=hY h.o;have HE:=hY h.e;have HX:=hY h.x;have HP:=hY h.p;have HS:=hY hs;have HPS:=hY hp;obtain⟨ep,pl,ao,co,ag,cg,ae,ce,ax,cx,ap,cp,rfl⟩:=h.lit;simp only at e1 e2 HG HO HE HX HP;clear h hs hp;have hn1:=fun W=>packNum_any ep 2147483647 W
 rw[←e1,h1] at hn1;have hn2:=fun W=>packNum_any pl 2147483647 W
 rw[←e2,h2] at hn2;rw[e1] at hn1;rw[e2] at hn2;have HN1:=hY hn1;have HN2:=hY hn2;have hc0:checkR m.graph=0:=of_decide_eq_true h3;have hrr:=checkR_zero hc0;have HC0:=hY hc0;have HID:=hY fun n (hn:n∈m.graph)=>(show 0≤n.id∧n.id≤1000 from by have:=hrr.r7 n hn;omega)
 have hgl:m.graph.length≤1000:=by have:=hrr.len;omega
 have H4:=hY h4;clear hn1 e1 e2 h1 h2 h3 h4 hn2 hc0 hrr;show Calls Tryz.prog _ #[.agg #[.int .i64 ep,.int .i64 pl,.slice ao m.offs.length co,.slice ag m.graph.length cg,.slice ae m.ents.length ce,.slice ax m.out.length cx,.slice ap m.plan.length cp]] w _;go_enter Tryz.func90,Tryz.ntmps90
 go_wp2_with (first
  | (go_at_call 138;((with_reducible refine(HN1.o _).mono ?_);rintro e w1 ⟨rfl,rfl⟩))
  | (go_at_call 138;((with_reducible refine(HN2.o _).mono ?_);rintro e w1 ⟨rfl,rfl⟩))
  | (go_at_call 7;refine(check_graph _ m.graph _ (HG.o.grew gw) HS.o).mono ?_;rintro e w1 ⟨rfl,R1,n1,rfl⟩;rw[HC0.o])
  | (go_at_call 139;refine(sorted_any _ m.graph _ (HG.o.grew gw) HID.o (by omega)).mono ?_;rintro e w1 ⟨rfl,R2,n2,rfl⟩;rw[H4.o])
  | fail)
 go_ret;exact⟨rfl,gw⟩
open Classical in
theorem manRight_5(c:MfC)(m:Gr.Mf)(w:World)(h:MfIs w c m)(hs:Small m.graph)(hp:∀s∈m.plan,s.nd.frm.length≤100∧s.nd.prog.length≤1000)(he:m.ents.length≤100000)(h1:(numB m.epoch 2147483647)=true)(h2:(numB m.plans 2147483647)=true)(h3:(decide (checkR m.graph=0))=true)(h4:(sortedB m.graph)=true)(h5:(decide ((m.out.length:Int)≤4000))=false): Calls Tryz.prog 90 #[.agg #[.int .i64 c.epoch,.int .i64 c.plans,.slice c.ao c.no c.co,.slice c.ag c.ng c.cg,.slice c.ae c.ne c.ce,.slice c.ax c.nx c.cx,.slice c.ap c.np c.cp]] w (Gives (.bool false) w):=by
 have e1:=h.epoch;have e2:=h.plans;have HG:=hY h.g;have HO:=hY h.o;have HE:=hY h.e;have HX:=hY h.x;have HP:=hY h.p;have HS:=hY hs;have HPS:=hY hp;obtain⟨ep,pl,ao,co,ag,cg,ae,ce,ax,cx,ap,cp,rfl⟩:=h.lit;simp only at e1 e2 HG HO HE HX HP;clear h hs hp;have hn1:=fun W=>packNum_any ep 2147483647 W
 rw[←e1,h1] at hn1;have hn2:=fun W=>packNum_any pl 2147483647 W
 rw[←e2,h2] at hn2;rw[e1] at hn1;rw[e2] at hn2;have HN1:=hY hn1;have HN2:=hY hn2;have hc0:checkR m.graph=0:=of_decide_eq_true h3;have hrr:=checkR_zero hc0;have HC0:=hY hc0;have HID:=hY fun n (hn:n∈m.graph)=>(show 0≤n.id∧n.id≤1000 from by have:=hrr.r7 n hn;omega)
 have hgl:m.graph.length≤1000:=by have:=hrr.len;omega
 have H4:=hY h4;have ho5:=of_decide_eq_false h5;have ho6:(4000:Int)<(m.out.length:Int):=by omega
 clear ho5;clear hn1 e1 e2 h1 h2 h3 h4 h5 hn2 hc0 hrr;show Calls Tryz.prog _ #[.agg #[.int .i64 ep,.int .i64 pl,.slice ao m.offs.length co,.slice ag m.graph.length cg,.slice ae m.ents.length ce,.slice ax m.out.length cx,.slice ap m.plan.length cp]] w _;go_enter Tryz.func90,Tryz.ntmps90
 go_wp2_with (first
  | (go_at_call 138;((with_reducible refine(HN1.o _).mono ?_);rintro e w1 ⟨rfl,rfl⟩))
  | (go_at_call 138;((with_reducible refine(HN2.o _).mono ?_);rintro e w1 ⟨rfl,rfl⟩))
  | (go_at_call 7;refine(check_graph _ m.graph _ (HG.o.grew gw) HS.o).mono ?_;rintro e w1 ⟨rfl,R1,n1,rfl⟩;rw[HC0.o])
  | (go_at_call 139;refine(sorted_any _ m.graph _ (HG.o.grew gw) HID.o (by omega)).mono ?_;rintro e w1 ⟨rfl,R2,n2,rfl⟩;rw[H4.o])
  | fail)
 go_ret;exact⟨rfl,gw⟩
open Classical in
theorem manRight_6(c:MfC)(m:Gr.Mf)(w:World)(h:MfIs w c m)(hs:Small m.graph)(hp:∀s∈m.plan,s.nd.frm.length≤100∧s.nd.prog.length≤1000)(he:m.ents.length≤100000)(h1:(numB m.epoch 2147483647)=true)(h2:(numB m.plans 2147483647)=true)(h3:(decide (checkR m.graph=0))=true)(h4:(sortedB m.graph)=true)(h5:(decide ((m.out.length:Int)≤4000))=true)(h6:(plB m.plan)=false): Calls Tryz.prog 90 #[.agg #[.int .i64 c.epoch,.int .i64 c.plans,.slice c.ao c.no c.co,.slice c.ag c.ng c.cg,.slice c.ae c.ne c.ce,.slice c.ax c.nx c.cx,.slice c.ap c.np c.cp]] w (Gives (.bool false) w):=by
 have e1:=h.epoch;have e2:=h.plans;have HG:=hY h.g;have HO:=hY h.o;have HE:=hY h.e;have HX:=hY h.x;have HP:=hY h.p;have HS:=hY hs;have HPS:=hY hp;obtain⟨ep,pl,ao,co,ag,cg,ae,ce,ax,cx,ap,cp,rfl⟩:=h.lit;simp only at e1 e2 HG HO HE HX HP;clear h hs hp;have hn1:=fun W=>packNum_any ep 2147483647 W
 rw[←e1,h1] at hn1;have hn2:=fun W=>packNum_any pl 2147483647 W
 rw[←e2,h2] at hn2;rw[e1] at hn1;rw[e2] at hn2;have HN1:=hY hn1;have HN2:=hY hn2;have hc0:checkR m.graph=0:=of_decide_eq_true h3;have hrr:=checkR_zero hc0;have HC0:=hY hc0;have HID:=hY fun n (hn:n∈m.graph)=>(show 0≤n.id∧n.id≤1000 from by have:=hrr.r7 n hn;omega)
 have hgl:m.graph.length≤1000:=by have:=hrr.len;omega
 have H4:=hY h4;have ho5:=of_decide_eq_true h5;have ho6:¬(4000:Int)<(m.out.length:Int):=by omega
 clear ho5;obtain⟨src,hsrc⟩:=source_some hrr;have hfi:=fun W (g:Grew w W)=>find_any _ m.graph 0 W (HG.o.grew g) HS.o
 rw[hsrc] at hfi;have HF:=hY hfi;have hpo:parOf m.graph=src.par:=by unfold parOf;rw[hsrc]
 have H6:=hY h6;clear hn1 e1 e2 h1 h2 h3 h4 h5 h6 hn2 hc0 hfi hpo hsrc hrr;show Calls Tryz.prog _ #[.agg #[.int .i64 ep,.int .i64 pl,.slice ao m.offs.length co,.slice ag m.graph.length cg,.slice ae m.ents.length ce,.slice ax m.out.length cx,.slice ap m.plan.length cp]] w _;go_enter Tryz.func90,Tryz.ntmps90
 go_wp2_with (first
  | (go_at_call 138;((with_reducible refine(HN1.o _).mono ?_);rintro e w1 ⟨rfl,rfl⟩))
  | (go_at_call 138;((with_reducible refine(HN2.o _).mono ?_);rintro e w1 ⟨rfl,rfl⟩))
  | (go_at_call 7;refine(check_graph _ m.graph _ (HG.o.grew gw) HS.o).mono ?_;rintro e w1 ⟨rfl,R1,n1,rfl⟩;rw[HC0.o])
  | (go_at_call 139;refine(sorted_any _ m.graph _ (HG.o.grew gw) HID.o (by omega)).mono ?_;rintro e w1 ⟨rfl,R2,n2,rfl⟩;rw[H4.o])
  | (go_at_call 76;refine(HF.o _ gw).mono ?_;rintro e w1 ⟨c9,rfl,h9,-,R3,n3,rfl⟩;(have hpar:=h9.par);obtain⟨cid,kind,af9,cf9,ap9,cp9,par,r0,r1,r2,r3,r4,r5,r6,r7,rfl⟩:=h9.lit;simp only at hpar;clear h9 hpar)
  | (go_at_call 143;refine(planned_any _ m.plan _ (HP.o.grew gw) HPS.o).mono ?_;rintro e w1 ⟨rfl,R4,n4,rfl⟩;rw[H6.o])
  | fail)
 go_ret;exact⟨rfl,gw⟩
open Classical in
theorem manRight_7(c:MfC)(m:Gr.Mf)(w:World)(h:MfIs w c m)(hs:Small m.graph)(hp:∀s∈m.plan,s.nd.frm.length≤100∧s.nd.prog.length≤1000)(he:m.ents.length≤100000)(h1:(numB m.epoch 2147483647)=true)(h2:(numB m.plans 2147483647)=true)(h3:(decide (checkR m.graph=0))=true)(h4:(sortedB m.graph)=true)(h5:(decide ((m.out.length:Int)≤4000))=true)(h6:(plB m.plan)=true)(h7:(((m.offs.length:Int)==parOf m.graph))=false): Calls Tryz.prog 90 #[.agg #[.int .i64 c.epoch,.int .i64 c.plans,.slice c.ao c.no c.co,.slice c.ag c.ng c.cg,.slice c.ae c.ne c.ce,.slice c.ax c.nx c.cx,.slice c.ap c.np c.cp]] w (Gives (.bool false) w):=by
 have e1:=h.epoch;have e2:=h.plans;have HG:=hY h.g;have HO:=hY h.o;have HE:=hY h.e;have HX:=hY h.x;have HP:=hY h.p;have HS:=hY hs;have HPS:=hY hp;obtain⟨ep,pl,ao,co,ag,cg,ae,ce,ax,cx,ap,cp,rfl⟩:=h.lit;simp only at e1 e2 HG HO HE HX HP;clear h hs hp;have hn1:=fun W=>packNum_any ep 2147483647 W
 rw[←e1,h1] at hn1;have hn2:=fun W=>packNum_any pl 2147483647 W
 rw[←e2,h2] at hn2;rw[e1] at hn1;rw[e2] at hn2;have HN1:=hY hn1;have HN2:=hY hn2;have hc0:checkR m.graph=0:=of_decide_eq_true h3;have hrr:=checkR_zero hc0;have HC0:=hY hc0;have HID:=hY fun n (hn:n∈m.graph)=>(show 0≤n.id∧n.id≤1000 from by have:=hrr.r7 n hn;omega)
 have hgl:m.graph.length≤1000:=by have:=hrr.len;omega
 have H4:=hY h4;have ho5:=of_decide_eq_true h5;have ho6:¬(4000:Int)<(m.out.length:Int):=by omega
 clear ho5;obtain⟨src,hsrc⟩:=source_some hrr;have hfi:=fun W (g:Grew w W)=>find_any _ m.graph 0 W (HG.o.grew g) HS.o
 rw[hsrc] at hfi;have HF:=hY hfi;have hpo:parOf m.graph=src.par:=by unfold parOf;rw[hsrc]
 have QPAR:((m.offs.length:Int)==src.par)=false:=by rw[←hpo];exact h7
 have H6:=hY h6;clear hn1 e1 e2 h1 h2 h3 h4 h5 h6 h7 hn2 hc0 hfi hpo hsrc hrr;show Calls Tryz.prog _ #[.agg #[.int .i64 ep,.int .i64 pl,.slice ao m.offs.length co,.slice ag m.graph.length cg,.slice ae m.ents.length ce,.slice ax m.out.length cx,.slice ap m.plan.length cp]] w _;go_enter Tryz.func90,Tryz.ntmps90
 go_wp2_with (first
  | (go_at_call 138;((with_reducible refine(HN1.o _).mono ?_);rintro e w1 ⟨rfl,rfl⟩))
  | (go_at_call 138;((with_reducible refine(HN2.o _).mono ?_);rintro e w1 ⟨rfl,rfl⟩))
  | (go_at_call 7;refine(check_graph _ m.graph _ (HG.o.grew gw) HS.o).mono ?_;rintro e w1 ⟨rfl,R1,n1,rfl⟩;rw[HC0.o])
  | (go_at_call 139;refine(sorted_any _ m.graph _ (HG.o.grew gw) HID.o (by omega)).mono ?_;rintro e w1 ⟨rfl,R2,n2,rfl⟩;rw[H4.o])
  | (go_at_call 76;refine(HF.o _ gw).mono ?_;rintro e w1 ⟨c9,rfl,h9,-,R3,n3,rfl⟩;(have hpar:=h9.par);obtain⟨cid,kind,af9,cf9,ap9,cp9,par,r0,r1,r2,r3,r4,r5,r6,r7,rfl⟩:=h9.lit;simp only at hpar;rw[hpar] at QPAR;clear h9 hpar)
  | (go_at_call 143;refine(planned_any _ m.plan _ (HP.o.grew gw) HPS.o).mono ?_;rintro e w1 ⟨rfl,R4,n4,rfl⟩;rw[H6.o])
  | fail)
 go_ret;exact⟨rfl,gw⟩
open Classical in
theorem manRight_8(c:MfC)(m:Gr.Mf)(w:World)(h:MfIs w c m)(hs:Small m.graph)(hp:∀s∈m.plan,s.nd.frm.length≤100∧s.nd.prog.length≤1000)(he:m.ents.length≤100000)(h1:(numB m.epoch 2147483647)=true)(h2:(numB m.plans 2147483647)=true)(h3:(decide (checkR m.graph=0))=true)(h4:(sortedB m.graph)=true)(h5:(decide ((m.out.length:Int)≤4000))=true)(h6:(plB m.plan)=true)(h7:(((m.offs.length:Int)==parOf m.graph))=true)(h8:(!(m.offs.any fun x=> !(numB x 400)))=false): Calls Tryz.prog 90 #[.agg #[.int .i64 c.epoch,.int .i64 c.plans,.slice c.ao c.no c.co,.slice c.ag c.ng c.cg,.slice c.ae c.ne c.ce,.slice c.ax c.nx c.cx,.slice c.ap c.np c.cp]] w (Gives (.bool false) w):=by
 have e1:=h.epoch;have e2:=h.plans;have HG:=hY h.g;have HO:=hY h.o;have HE:=hY h.e;have HX:=hY h.x;have HP:=hY h.p;have HS:=hY hs;have HPS:=hY hp;obtain⟨ep,pl,ao,co,ag,cg,ae,ce,ax,cx,ap,cp,rfl⟩:=h.lit;simp only at e1 e2 HG HO HE HX HP;clear h hs hp;have hn1:=fun W=>packNum_any ep 2147483647 W
 rw[←e1,h1] at hn1;have hn2:=fun W=>packNum_any pl 2147483647 W
 rw[←e2,h2] at hn2;rw[e1] at hn1;rw[e2] at hn2;have HN1:=hY hn1;have HN2:=hY hn2;have hc0:checkR m.graph=0:=of_decide_eq_true h3;have hrr:=checkR_zero hc0;have HC0:=hY hc0;have HID:=hY fun n (hn:n∈m.graph)=>(show 0≤n.id∧n.id≤1000 from by have:=hrr.r7 n hn;omega)
 have hgl:m.graph.length≤1000:=by have:=hrr.len;omega
 have H4:=hY h4;have ho5:=of_decide_eq_true h5;have ho6:¬(4000:Int)<(m.out.length:Int):=by omega
 clear ho5;obtain⟨src,hsrc⟩:=source_some hrr;have hfi:=fun W (g:Grew w W)=>find_any _ m.graph 0 W (HG.o.grew g) HS.o
 rw[hsrc] at hfi;have HF:=hY hfi;have hpo:parOf m.graph=src.par:=by unfold parOf;rw[hsrc]
 have QPAR:((m.offs.length:Int)==src.par)=true:=by rw[←hpo];exact h7
 have H6:=hY h6;have h8b:(m.offs.any fun x=> !(numB x 400))=true:=by cases hq:(m.offs.any fun x=> !(numB x 400))<;>rw[hq] at h8<;>first|rfl|cases h8
 have H8:=hY h8b;clear hn1 e1 e2 h1 h2 h3 h4 h5 h6 h7 h8 hn2 hc0 hfi hpo hsrc hrr h8b;show Calls Tryz.prog _ #[.agg #[.int .i64 ep,.int .i64 pl,.slice ao m.offs.length co,.slice ag m.graph.length cg,.slice ae m.ents.length ce,.slice ax m.out.length cx,.slice ap m.plan.length cp]] w _;go_enter Tryz.func90,Tryz.ntmps90
 go_wp2_with (first
  | (go_at_call 138;((with_reducible refine(HN1.o _).mono ?_);rintro e w1 ⟨rfl,rfl⟩))
  | (go_at_call 138;((with_reducible refine(HN2.o _).mono ?_);rintro e w1 ⟨rfl,rfl⟩))
  | (go_at_call 7;refine(check_graph _ m.graph _ (HG.o.grew gw) HS.o).mono ?_;rintro e w1 ⟨rfl,R1,n1,rfl⟩;rw[HC0.o])
  | (go_at_call 139;refine(sorted_any _ m.graph _ (HG.o.grew gw) HID.o (by omega)).mono ?_;rintro e w1 ⟨rfl,R2,n2,rfl⟩;rw[H4.o])
  | (go_at_call 76;refine(HF.o _ gw).mono ?_;rintro e w1 ⟨c9,rfl,h9,-,R3,n3,rfl⟩;(have hpar:=h9.par);obtain⟨cid,kind,af9,cf9,ap9,cp9,par,r0,r1,r2,r3,r4,r5,r6,r7,rfl⟩:=h9.lit;simp only at hpar;rw[hpar] at QPAR;clear h9 hpar)
  | (go_at_call 143;refine(planned_any _ m.plan _ (HP.o.grew gw) HPS.o).mono ?_;rintro e w1 ⟨rfl,R4,n4,rfl⟩;rw[H6.o])
  | (go_at_call 79;refine(containsIn_any _ m.offs (fun x=> !(numB x 400)) _ (HO.o.grew gw) (fun W x _ _=>right1_any x W)).mono ?_;rintro e w1 ⟨rfl,R5,n5,rfl⟩;rw[H8.o])
  | fail)
 go_ret;exact⟨rfl,gw⟩
open Classical in
theorem manRight_9(c:MfC)(m:Gr.Mf)(w:World)(h:MfIs w c m)(hs:Small m.graph)(hp:∀s∈m.plan,s.nd.frm.length≤100∧s.nd.prog.length≤1000)(he:m.ents.length≤100000)(h1:(numB m.epoch 2147483647)=true)(h2:(numB m.plans 2147483647)=true)(h3:(decide (checkR m.graph=0))=true)(h4:(sortedB m.graph)=true)(h5:(decide ((m.out.length:Int)≤4000))=true)(h6:(plB m.plan)=true)(h7:(((m.offs.length:Int)==parOf m.graph))=true)(h8:(!(m.offs.any fun x=> !(numB x 400)))=true)(h9:(entB m.ents m.graph)=false): Calls Tryz.prog 90 #[.agg #[.int .i64 c.epoch,.int .i64 c.plans,.slice c.ao c.no c.co,.slice c.ag c.ng c.cg,.slice c.ae c.ne c.ce,.slice c.ax c.nx c.cx,.slice c.ap c.np c.cp]] w (Gives (.bool false) w):=by
 have e1:=h.epoch;have e2:=h.plans;have HG:=hY h.g;have HO:=hY h.o;have HE:=hY h.e;have HX:=hY h.x;have HP:=hY h.p;have HS:=hY hs;have HPS:=hY hp;obtain⟨ep,pl,ao,co,ag,cg,ae,ce,ax,cx,ap,cp,rfl⟩:=h.lit;simp only at e1 e2 HG HO HE HX HP;clear h hs hp;have hn1:=fun W=>packNum_any ep 2147483647 W
 rw[←e1,h1] at hn1;have hn2:=fun W=>packNum_any pl 2147483647 W
 rw[←e2,h2] at hn2;rw[e1] at hn1;rw[e2] at hn2;have HN1:=hY hn1;have HN2:=hY hn2;have hc0:checkR m.graph=0:=of_decide_eq_true h3;have hrr:=checkR_zero hc0;have HC0:=hY hc0;have HID:=hY fun n (hn:n∈m.graph)=>(show 0≤n.id∧n.id≤1000 from by have:=hrr.r7 n hn;omega)
 have hgl:m.graph.length≤1000:=by have:=hrr.len;omega
 have H4:=hY h4;have ho5:=of_decide_eq_true h5;have ho6:¬(4000:Int)<(m.out.length:Int):=by omega
 clear ho5;obtain⟨src,hsrc⟩:=source_some hrr;have hfi:=fun W (g:Grew w W)=>find_any _ m.graph 0 W (HG.o.grew g) HS.o
 rw[hsrc] at hfi;have HF:=hY hfi;have hpo:parOf m.graph=src.par:=by unfold parOf;rw[hsrc]
 have QPAR:((m.offs.length:Int)==src.par)=true:=by rw[←hpo];exact h7
 have H6:=hY h6;have h8b:(m.offs.any fun x=> !(numB x 400))=false:=by cases hq:(m.offs.any fun x=> !(numB x 400))<;>rw[hq] at h8<;>first|rfl|cases h8
 have H8:=hY h8b;have H9:=hY h9;clear hn1 e1 e2 h1 h2 h3 h4 h5 h6 h7 h8 h9 hn2 hc0 hfi hpo hsrc hrr h8b;show Calls Tryz.prog _ #[.agg #[.int .i64 ep,.int .i64 pl,.slice ao m.offs.length co,.slice ag m.graph.length cg,.slice ae m.ents.length ce,.slice ax m.out.length cx,.slice ap m.plan.length cp]] w _;go_enter Tryz.func90,Tryz.ntmps90
 go_wp2_with (first
  | (go_at_call 138;((with_reducible refine(HN1.o _).mono ?_);rintro e w1 ⟨rfl,rfl⟩))
  | (go_at_call 138;((with_reducible refine(HN2.o _).mono ?_);rintro e w1 ⟨rfl,rfl⟩))
  | (go_at_call 7;refine(check_graph _ m.graph _ (HG.o.grew gw) HS.o).mono ?_;rintro e w1 ⟨rfl,R1,n1,rfl⟩;rw[HC0.o])
  | (go_at_call 139;refine(sorted_any _ m.graph _ (HG.o.grew gw) HID.o (by omega)).mono ?_;rintro e w1 ⟨rfl,R2,n2,rfl⟩;rw[H4.o])
  | (go_at_call 76;refine(HF.o _ gw).mono ?_;rintro e w1 ⟨c9,rfl,h9,-,R3,n3,rfl⟩;(have hpar:=h9.par);obtain⟨cid,kind,af9,cf9,ap9,cp9,par,r0,r1,r2,r3,r4,r5,r6,r7,rfl⟩:=h9.lit;simp only at hpar;rw[hpar] at QPAR;clear h9 hpar)
  | (go_at_call 143;refine(planned_any _ m.plan _ (HP.o.grew gw) HPS.o).mono ?_;rintro e w1 ⟨rfl,R4,n4,rfl⟩;rw[H6.o])
  | (go_at_call 79;refine(containsIn_any _ m.offs (fun x=> !(numB x 400)) _ (HO.o.grew gw) (fun W x _ _=>right1_any x W)).mono ?_;rintro e w1 ⟨rfl,R5,n5,rfl⟩;rw[H8.o])
  | (go_at_call 144;refine(entries_any _ _ m.ents m.graph _ (HE.o.grew gw) (HG.o.grew gw) HS.o he).mono ?_;rintro e w1 ⟨rfl,R6,n6,rfl⟩;rw[H9.o])
  | fail)
 go_ret;exact⟨rfl,gw⟩
open Classical in
theorem manRight_10(c:MfC)(m:Gr.Mf)(w:World)(h:MfIs w c m)(hs:Small m.graph)(hp:∀s∈m.plan,s.nd.frm.length≤100∧s.nd.prog.length≤1000)(he:m.ents.length≤100000)(h1:(numB m.epoch 2147483647)=true)(h2:(numB m.plans 2147483647)=true)(h3:(decide (checkR m.graph=0))=true)(h4:(sortedB m.graph)=true)(h5:(decide ((m.out.length:Int)≤4000))=true)(h6:(plB m.plan)=true)(h7:(((m.offs.length:Int)==parOf m.graph))=true)(h8:(!(m.offs.any fun x=> !(numB x 400)))=true)(h9:(entB m.ents m.graph)=true)(h10:(!(m.out.any fun x=> !(lineB x)))=false): Calls Tryz.prog 90 #[.agg #[.int .i64 c.epoch,.int .i64 c.plans,.slice c.ao c.no c.co,.slice c.ag c.ng c.cg,.slice c.ae c.ne c.ce,.slice c.ax c.nx c.cx,.slice c.ap c.np c.cp]] w (Gives (.bool false) w):=by
 have e1:=h.epoch;have e2:=h.plans;have HG:=hY h.g;have HO:=hY h.o;have HE:=hY h.e;have HX:=hY h.x;have HP:=hY h.p;have HS:=hY hs;have HPS:=hY hp;obtain⟨ep,pl,ao,co,ag,cg,ae,ce,ax,cx,ap,cp,rfl⟩:=h.lit;simp only at e1 e2 HG HO HE HX HP;clear h hs hp;have hn1:=fun W=>packNum_any ep 2147483647 W
 rw[←e1,h1] at hn1;have hn2:=fun W=>packNum_any pl 2147483647 W
 rw[←e2,h2] at hn2;rw[e1] at hn1;rw[e2] at hn2;have HN1:=hY hn1;have HN2:=hY hn2;have hc0:checkR m.graph=0:=of_decide_eq_true h3;have hrr:=checkR_zero hc0;have HC0:=hY hc0;have HID:=hY fun n (hn:n∈m.graph)=>(show 0≤n.id∧n.id≤1000 from by have:=hrr.r7 n hn;omega)
 have hgl:m.graph.length≤1000:=by have:=hrr.len;omega
 have H4:=hY h4;have ho5:=of_decide_eq_true h5;have ho6:¬(4000:Int)<(m.out.length:Int):=by omega
 clear ho5;obtain⟨src,hsrc⟩:=source_some hrr;have hfi:=fun W (g:Grew w W)=>find_any _ m.graph 0 W (HG.o.grew g) HS.o
 rw[hsrc] at hfi;have HF:=hY hfi;have hpo:parOf m.graph=src.par:=by unfold parOf;rw[hsrc]
 have QPAR:((m.offs.length:Int)==src.par)=true:=by rw[←hpo];exact h7
 have H6:=hY h6;have h8b:(m.offs.any fun x=> !(numB x 400))=false:=by cases hq:(m.offs.any fun x=> !(numB x 400))<;>rw[hq] at h8<;>first|rfl|cases h8
 have H8:=hY h8b;have h10b:(m.out.any fun x=> !(lineB x))=true:=by cases hq:(m.out.any fun x=> !(lineB x))<;>rw[hq] at h10<;>first|rfl|cases h10
 have H10:=hY h10b;have H9:=hY h9;clear hn1 e1 e2 h1 h2 h3 h4 h5 h6 h7 h8 h9 h10 hn2 hc0 hfi hpo hsrc hrr h8b h10b;show Calls Tryz.prog _ #[.agg #[.int .i64 ep,.int .i64 pl,.slice ao m.offs.length co,.slice ag m.graph.length cg,.slice ae m.ents.length ce,.slice ax m.out.length cx,.slice ap m.plan.length cp]] w _;go_enter Tryz.func90,Tryz.ntmps90
 go_wp2_with (first
  | (go_at_call 138;((with_reducible refine(HN1.o _).mono ?_);rintro e w1 ⟨rfl,rfl⟩))
  | (go_at_call 138;((with_reducible refine(HN2.o _).mono ?_);rintro e w1 ⟨rfl,rfl⟩))
  | (go_at_call 7;refine(check_graph _ m.graph _ (HG.o.grew gw) HS.o).mono ?_;rintro e w1 ⟨rfl,R1,n1,rfl⟩;rw[HC0.o])
  | (go_at_call 139;refine(sorted_any _ m.graph _ (HG.o.grew gw) HID.o (by omega)).mono ?_;rintro e w1 ⟨rfl,R2,n2,rfl⟩;rw[H4.o])
  | (go_at_call 76;refine(HF.o _ gw).mono ?_;rintro e w1 ⟨c9,rfl,h9,-,R3,n3,rfl⟩;(have hpar:=h9.par);obtain⟨cid,kind,af9,cf9,ap9,cp9,par,r0,r1,r2,r3,r4,r5,r6,r7,rfl⟩:=h9.lit;simp only at hpar;rw[hpar] at QPAR;clear h9 hpar)
  | (go_at_call 143;refine(planned_any _ m.plan _ (HP.o.grew gw) HPS.o).mono ?_;rintro e w1 ⟨rfl,R4,n4,rfl⟩;rw[H6.o])
  | (go_at_call 79;refine(containsIn_any _ m.offs (fun x=> !(numB x 400)) _ (HO.o.grew gw) (fun W x _ _=>right1_any x W)).mono ?_;rintro e w1 ⟨rfl,R5,n5,rfl⟩;rw[H8.o])
  | (go_at_call 144;refine(entries_any _ _ m.ents m.graph _ (HE.o.grew gw) (HG.o.grew gw) HS.o he).mono ?_;rintro e w1 ⟨rfl,R6,n6,rfl⟩;rw[H9.o])
  | (go_at_call 145;refine(containsLn_any _ m.out (fun x=> !(lineB x)) _ (HX.o.grew gw) (fun W x _ _=>right2_any x W)).mono ?_;rintro e w1 ⟨rfl,R7,n7,rfl⟩;rw[H10.o])
  | fail)
 go_ret;exact⟨rfl,gw⟩
open Classical in
theorem manRight_11(c:MfC)(m:Gr.Mf)(w:World)(h:MfIs w c m)(hs:Small m.graph)(hp:∀s∈m.plan,s.nd.frm.length≤100∧s.nd.prog.length≤1000)(he:m.ents.length≤100000)(h1:(numB m.epoch 2147483647)=true)(h2:(numB m.plans 2147483647)=true)(h3:(decide (checkR m.graph=0))=true)(h4:(sortedB m.graph)=true)(h5:(decide ((m.out.length:Int)≤4000))=true)(h6:(plB m.plan)=true)(h7:(((m.offs.length:Int)==parOf m.graph))=true)(h8:(!(m.offs.any fun x=> !(numB x 400)))=true)(h9:(entB m.ents m.graph)=true)(h10:(!(m.out.any fun x=> !(lineB x)))=true): Calls Tryz.prog 90 #[.agg #[.int .i64 c.epoch,.int .i64 c.plans,.slice c.ao c.no c.co,.slice c.ag c.ng c.cg,.slice c.ae c.ne c.ce,.slice c.ax c.nx c.cx,.slice c.ap c.np c.cp]] w (Gives (.bool true) w):=by
 have e1:=h.epoch;have e2:=h.plans;have HG:=hY h.g;have HO:=hY h.o;have HE:=hY h.e;have HX:=hY h.x;have HP:=hY h.p;have HS:=hY hs;have HPS:=hY hp;obtain⟨ep,pl,ao,co,ag,cg,ae,ce,ax,cx,ap,cp,rfl⟩:=h.lit;simp only at e1 e2 HG HO HE HX HP;clear h hs hp;have hn1:=fun W=>packNum_any ep 2147483647 W
 rw[←e1,h1] at hn1;have hn2:=fun W=>packNum_any pl 2147483647 W
 rw[←e2,h2] at hn2;rw[e1] at hn1;rw[e2] at hn2;have HN1:=hY hn1;have HN2:=hY hn2;have hc0:checkR m.graph=0:=of_decide_eq_true h3;have hrr:=checkR_zero hc0;have HC0:=hY hc0;have HID:=hY fun n (hn:n∈m.graph)=>(show 0≤n.id∧n.id≤1000 from by have:=hrr.r7 n hn;omega)
 have hgl:m.graph.length≤1000:=by have:=hrr.len;omega
 have H4:=hY h4;have ho5:=of_decide_eq_true h5;have ho6:¬(4000:Int)<(m.out.length:Int):=by omega
 clear ho5;obtain⟨src,hsrc⟩:=source_some hrr;have hfi:=fun W (g:Grew w W)=>find_any _ m.graph 0 W (HG.o.grew g) HS.o
 rw[hsrc] at hfi;have HF:=hY hfi;have hpo:parOf m.graph=src.par:=by unfold parOf;rw[hsrc]
 have QPAR:((m.offs.length:Int)==src.par)=true:=by rw[←hpo];exact h7
 have H6:=hY h6;have h8b:(m.offs.any fun x=> !(numB x 400))=false:=by cases hq:(m.offs.any fun x=> !(numB x 400))<;>rw[hq] at h8<;>first|rfl|cases h8
 have H8:=hY h8b;have h10b:(m.out.any fun x=> !(lineB x))=false:=by cases hq:(m.out.any fun x=> !(lineB x))<;>rw[hq] at h10<;>first|rfl|cases h10
 have H10:=hY h10b;have H9:=hY h9;clear hn1 e1 e2 h1 h2 h3 h4 h5 h6 h7 h8 h9 h10 hn2 hc0 hfi hpo hsrc hrr h8b h10b;show Calls Tryz.prog _ #[.agg #[.int .i64 ep,.int .i64 pl,.slice ao m.offs.length co,.slice ag m.graph.length cg,.slice ae m.ents.length ce,.slice ax m.out.length cx,.slice ap m.plan.length cp]] w _;go_enter Tryz.func90,Tryz.ntmps90
 go_wp2_with (first
  | (go_at_call 138;((with_reducible refine(HN1.o _).mono ?_);rintro e w1 ⟨rfl,rfl⟩))
  | (go_at_call 138;((with_reducible refine(HN2.o _).mono ?_);rintro e w1 ⟨rfl,rfl⟩))
  | (go_at_call 7;refine(check_graph _ m.graph _ (HG.o.grew gw) HS.o).mono ?_;rintro e w1 ⟨rfl,R1,n1,rfl⟩;rw[HC0.o])
  | (go_at_call 139;refine(sorted_any _ m.graph _ (HG.o.grew gw) HID.o (by omega)).mono ?_;rintro e w1 ⟨rfl,R2,n2,rfl⟩;rw[H4.o])
  | (go_at_call 76;refine(HF.o _ gw).mono ?_;rintro e w1 ⟨c9,rfl,h9,-,R3,n3,rfl⟩;(have hpar:=h9.par);obtain⟨cid,kind,af9,cf9,ap9,cp9,par,r0,r1,r2,r3,r4,r5,r6,r7,rfl⟩:=h9.lit;simp only at hpar;rw[hpar] at QPAR;clear h9 hpar)
  | (go_at_call 143;refine(planned_any _ m.plan _ (HP.o.grew gw) HPS.o).mono ?_;rintro e w1 ⟨rfl,R4,n4,rfl⟩;rw[H6.o])
  | (go_at_call 79;refine(containsIn_any _ m.offs (fun x=> !(numB x 400)) _ (HO.o.grew gw) (fun W x _ _=>right1_any x W)).mono ?_;rintro e w1 ⟨rfl,R5,n5,rfl⟩;rw[H8.o])
  | (go_at_call 144;refine(entries_any _ _ m.ents m.graph _ (HE.o.grew gw) (HG.o.grew gw) HS.o he).mono ?_;rintro e w1 ⟨rfl,R6,n6,rfl⟩;rw[H9.o])
  | (go_at_call 145;refine(containsLn_any _ m.out (fun x=> !(lineB x)) _ (HX.o.grew gw) (fun W x _ _=>right2_any x W)).mono ?_;rintro e w1 ⟨rfl,R7,n7,rfl⟩;rw[H10.o])
  | fail)
 go_ret;exact⟨rfl,gw⟩
open Classical in
theorem manRight_any(c:MfC)(m:Gr.Mf)(w:World)(h:MfIs w c m)(hs:Small m.graph)(hp:∀s∈m.plan,s.nd.frm.length≤100∧s.nd.prog.length≤1000)(he:m.ents.length≤100000): Calls Tryz.prog 90 #[.agg #[.int .i64 c.epoch,.int .i64 c.plans,.slice c.ao c.no c.co,.slice c.ag c.ng c.cg,.slice c.ae c.ne c.ce,.slice c.ax c.nx c.cx,.slice c.ap c.np c.cp]] w (Gives (.bool (rightB m)) w):=by
 cases h1:(numB m.epoch 2147483647)
 ·have hr:rightB m=false:=by unfold rightB;rw[h1];rfl
  rw[hr];exact manRight_1 c m w h hs hp he h1
 cases h2:(numB m.plans 2147483647)
 ·have hr:rightB m=false:=by unfold rightB;rw[h1,h2];rfl
  rw[hr];exact manRight_2 c m w h hs hp he h1 h2
 cases h3:(decide (checkR m.graph=0))
 ·have hr:rightB m=false:=by unfold rightB;rw[h1,h2,h3];rfl
  rw[hr];exact manRight_3 c m w h hs hp he h1 h2 h3
 cases h4:(sortedB m.graph)
 ·have hr:rightB m=false:=by unfold rightB;rw[h1,h2,h3,h4];rfl
  rw[hr];exact manRight_4 c m w h hs hp he h1 h2 h3 h4
 cases h5:(decide ((m.out.length:Int)≤4000))
 ·have hr:rightB m=false:=by unfold rightB;rw[h1,h2,h3,h4,h5];rfl
  rw[hr];exact manRight_5 c m w h hs hp he h1 h2 h3 h4 h5
 cases h6:(plB m.plan)
 ·have hr:rightB m=false:=by unfold rightB;rw[h1,h2,h3,h4,h5,h6];rfl
  rw[hr];exact manRight_6 c m w h hs hp he h1 h2 h3 h4 h5 h6
 cases h7:(((m.offs.length:Int)==parOf m.graph))
 ·have hr:rightB m=false:=by unfold rightB;rw[h1,h2,h3,h4,h5,h6,h7];rfl
  rw[hr];exact manRight_7 c m w h hs hp he h1 h2 h3 h4 h5 h6 h7
 cases h8:(!(m.offs.any fun x=> !(numB x 400)))
 ·have hr:rightB m=false:=by unfold rightB;rw[h1,h2,h3,h4,h5,h6,h7,h8];rfl
  rw[hr];exact manRight_8 c m w h hs hp he h1 h2 h3 h4 h5 h6 h7 h8
 cases h9:(entB m.ents m.graph)
 ·have hr:rightB m=false:=by unfold rightB;rw[h1,h2,h3,h4,h5,h6,h7,h8,h9];rfl
  rw[hr];exact manRight_9 c m w h hs hp he h1 h2 h3 h4 h5 h6 h7 h8 h9
 cases h10:(!(m.out.any fun x=> !(lineB x)))
 ·have hr:rightB m=false:=by unfold rightB;rw[h1,h2,h3,h4,h5,h6,h7,h8,h9,h10];rfl
  rw[hr];exact manRight_10 c m w h hs hp he h1 h2 h3 h4 h5 h6 h7 h8 h9 h10
 have hr:rightB m=true:=by unfold rightB;rw[h1,h2,h3,h4,h5,h6,h7,h8,h9,h10];rfl
 rw[hr];exact manRight_11 c m w h hs hp he h1 h2 h3 h4 h5 h6 h7 h8 h9 h10
def srtE(l:List Tab.En): List Tab.En:=l.mergeSort fun a b=>decide (Tab.num a≤Tab.num b)
theorem srtE_perm(l:List Tab.En): (srtE l).Perm l:=List.mergeSort_perm l _
theorem srtE_sorted(l:List Tab.En): (srtE l).Pairwise fun a b=>Tab.num a≤Tab.num b:=by
 have:=List.pairwise_mergeSort (le:=fun a b:Tab.En=>decide (Tab.num a≤Tab.num b)) (fun a b c h1 h2=>by simp at *;omega) (fun a b=>by simp;omega) l;exact this.imp fun h=>by simpa using h
theorem badE_no{g:List Gr.Nd}{x:Tab.En}: badE g x=false↔∃n,Gr.nodeOf g x.node=some n∧n.kind=1:=by
 unfold badE
 cases h:Gr.nodeOf g x.node with
 | none=>simp
 |some n =>
  simp only[Option.some.injEq];constructor
  ·intro hk;exact⟨n,rfl,by simpa using hk⟩
  ·rintro⟨m,rfl,hk⟩;simp[hk]
theorem lineB_iff{x:Gr.Ln}: lineB x=true↔(0≤x.sink∧x.sink≤7)∧(0≤x.frm∧x.frm≤7)∧(0≤x.key∧x.key<64)∧rightV x.v=true:=by
 unfold lineB;simp only[Bool.and_eq_true,numB_iff];constructor
 ·rintro⟨h1,h2,h3,h4⟩;exact⟨h1,h2,⟨h3.1,by omega⟩,h4⟩
 ·rintro⟨h1,h2,h3,h4⟩;exact⟨h1,h2,⟨h3.1,by omega⟩,h4⟩
theorem okEn_iff{x:Tab.En}: okEn x=true↔(0≤x.node∧x.node<8)∧(0≤x.key∧x.key<64)∧rightV x.c0=true∧rightV x.c1=true:=by
 unfold okEn;rw[Bool.and_eq_true,Bool.and_eq_true,thereB_iff];unfold There;exact⟨fun⟨⟨a,b⟩,c,d⟩=>⟨a,b,c,d⟩,fun⟨a,b,c,d⟩=>⟨⟨a,b⟩,c,d⟩⟩
theorem any_not{α:Type}{l:List α}{p:α→Bool}: (!(l.any fun x=> !(p x)))=true↔∀x∈l,p x=true:=by
 rw[Bool.not_eq_true',List.any_eq_false];constructor
 ·intro h x hx;have:=h x hx;simpa using this
 ·intro h x hx;rw[h x hx];simp
open Classical in
theorem entB_iff{l:List Tab.En}{g:List Gr.Nd}: entB l g=true↔(∀x∈l,okEn x=true)∧((l.Pairwise fun a b=>Tab.num a<Tab.num b)∧∀x∈l,Tab.nz x=true)∧∀x∈l,badE g x=false:=by
 unfold entB newOk;rw[Bool.and_eq_true,Bool.and_eq_true,List.all_eq_true,decide_eq_true_eq,Bool.not_eq_true',List.any_eq_false];refine⟨fun⟨h1,h2,h3⟩=>⟨h1,h2,fun x hx=>?_⟩,fun⟨h1,h2,h3⟩=>⟨h1,h2,fun x hx=>?_⟩⟩
 ·have:=h3 x hx;simpa using this
 ·rw[h3 x hx];simp
open Classical in
theorem plB_iff{p:List Gr.Stp}: plB p=true↔p=[]∨(Gr.OkPl fitsP p∧p.map Gr.cleanS=p):=by unfold plB;rw[decide_eq_true_eq]
theorem sortedB_iff{l:List Gr.Nd}: sortedB l=true↔Gr.sortedG l:=by unfold sortedB Gr.sortedG;rw[decide_eq_true_eq]
open Classical in
theorem rightB_iff{m:Gr.Mf}: rightB m=true↔Gr.RightM fitsP m:=by
 rw[←Gr.rightM_iff (s:=srtE (Tab.newT m.ents)) (srtE_perm _) (srtE_sorted _)];have hal:=Tab.all_iff (srtE_perm (Tab.newT m.ents)) (srtE_sorted _);unfold rightB;rw[Bool.and_eq_true,Bool.and_eq_true,Bool.and_eq_true,Bool.and_eq_true,Bool.and_eq_true,Bool.and_eq_true,Bool.and_eq_true,Bool.and_eq_true,Bool.and_eq_true,numB_iff,numB_iff,decide_eq_true_eq,decide_eq_true_eq,plB_iff,any_not,entB_iff,any_not,beq_iff_eq];constructor
 ·rintro⟨h1,h2,h3,h4,h5,h6,h7,h8,⟨h9,h10,h11⟩,h12⟩;have hr:=checkR_zero h3;obtain⟨src,hsrc⟩:=source_some hr;have hal2:=hal.2 h10;refine⟨h1,h2,hr,?_,by omega,h6,⟨src,hsrc,?_⟩,fun x hx=>numB_iff.1 (h8 x hx),fun x hx=>okEn_iff.1 (h9 x hx),hal2,fun x hx=>badE_no.1 (h11 x (by rw[←hal2];exact hx)),fun x hx=>lineB_iff.1 (h12 x hx)⟩
  ·exact sortedB_iff.1 h4
  ·rw[h7];unfold parOf;rw[hsrc]
 ·intro h;refine⟨h.ep,h.pl,checkR_ok h.gr.len h.gr,?_,by have:=h.ol;omega,h.pn,?_,fun x hx=>numB_iff.2 (h.o4 x hx),⟨fun x hx=>okEn_iff.2 (h.en x hx),hal.1 h.al,fun x hx=>badE_no.2 (h.ft x (by rw[h.al];exact hx))⟩,fun x hx=>lineB_iff.2 (h.ou x hx)⟩
  ·exact sortedB_iff.2 h.so
  ·obtain⟨n,hn,e⟩:=h.of;rw[e];unfold parOf;rw[hn]
def firstM(g:List Gr.Nd): Gr.Mf:=⟨0,0,List.replicate (parOf g).toNat 0,Gr.normG g,[],[],[]⟩
theorem parOf_range{g:List Gr.Nd}(h:Gr.RightR g): 1≤parOf g∧parOf g≤3:=by
 obtain⟨n,hn⟩:=source_some h;unfold parOf;rw[hn];exact(right_par h n (Gr.nodeOf_some hn).1).1
theorem first_right{g:List Gr.Nd}(h:Gr.RightR g): rightB (firstM g)=true:=by
 refine rightB_iff.2 ?_;have hn:=right_norm h;have hs:=Gr.normG_sorted g;have hno:∀{α:Type} {p:α→Prop},∀x∈([]:List α),p x:=fun x hx=>by cases hx
 refine { ep:=⟨Int.le_refl _,?_⟩,pl:=⟨Int.le_refl _,?_⟩,gr:=hn,so:=hs,of:=?_,o4:=?_,en:=hno,ei:=List.Pairwise.nil,ek:=hno,ol:=Nat.zero_le _,ou:=hno,pn:=.inl rfl }
 ·show(0:Int)≤2147483647;decide
 ·show(0:Int)≤2147483647;decide
 ·obtain⟨n,h1⟩:=source_some hn;refine⟨n,?_,?_⟩
  ·show(Gr.normG g).head? = some n;rw[←Gr.head_source hn hs];exact h1
  ·have hp:=parOf_range h;show((List.replicate (parOf g).toNat (0:Int)).length:Int)=n.par;rw[List.length_replicate]
   have:parOf g=n.par:=by
    unfold parOf;rw[←nodeOf_norm h,h1]
   omega
 ·intro x hx;obtain⟨-,rfl⟩:=List.mem_replicate.1 hx;omega
def zeroMf:Value:=.agg #[.int .i64 0,.int .i64 0,.slice none 0 0,.slice none 0 0,.slice none 0 0,.slice none 0 0,.slice none 0 0]
def FirstPost(w:World)(g:List Gr.Nd)(e:Ending)(w':World): Prop :=
 (Gr.RightR g→∃ao co ag cg,e = .returned (.tuple #[.agg #[.int .i64 0,.int .i64 0,.slice ao (parOf g).toNat co,.slice ag (Gr.normG g).length cg,.slice none 0 0,.slice none 0 0,.slice none 0 0],.int .i64 0])∧IntsAt w' (.slice ao (parOf g).toNat co) (List.replicate (parOf g).toNat 0)∧NodesAt w' (.slice ag (Gr.normG g).length cg) (Gr.normG g)) ∧
 (¬Gr.RightR g→e = .returned (.tuple #[.agg #[.int .i64 0,.int .i64 0,.slice none 0 0,.slice none 0 0,.slice none 0 0,.slice none 0 0,.slice none 0 0],.int .i64 10]))∧Grew w w'
theorem ints_zero(W:World)(p:Nat)(t:TypeId)(b:Nat)(hb:b=W.heap.size)(hp:p≤100){c:Array Value}(hc:c=Array.replicate p (.int .i64 0)): IntsAt (W.alloc (.cells c t)) (.slice (some ⟨b,0,none⟩) p p) (List.replicate p 0):=by
 subst hc
 have:=RowsAt.fresh (w:=W) (n:=b) (t:=t) (cap:=p) (k:=1) (enc:=fun x:Int=>[Value.int .i64 x]) (l:=List.replicate p 0) (ls:=p) (c:=List.replicate p (.int .i64 0)) (by simp) (by simp[maxLen];omega) (fun _=>rfl) hb (by
  induction p with
  | zero=>rfl
  | succ n ih=>rw[List.replicate_succ,List.replicate_succ,List.flatMap_cons,←ih (by omega)];rfl)
 rw[List.toArray_replicate] at this;exact this
def IntsZ(base p:Nat)(v:Value)(w:World): Prop:=∃b:Nat,v = .slice (some ⟨b,0,none⟩) p p∧base≤b∧w.heap[b]? = some (.cells (Array.replicate p (.int .i64 0)) 3)
theorem IntsZ.st(base p:Nat): ∀v w w',IntsZ base p v w→Grew w w'→IntsZ base p v w':=fun _ _ _ ⟨b,h1,h2,h3⟩ g=>⟨b,h1,h2,grew_heap g h3⟩
theorem IntsZ.ints{base p:Nat}{v:Value}{w:World}(h:IntsZ base p v w)(hp:p≤100): IntsAt w v (List.replicate p 0):=by
 obtain⟨b,rfl,-,h3⟩:=h;refine⟨_,p,by simp,by simp[maxLen];omega,fun _=>⟨b,0,rfl,fun i x hi j u hu=>?_⟩⟩;rw[cell_of h3];rw[List.getElem?_replicate] at hi;split at hi
 ·cases hi
  match j,hu with
  |0,hu =>
   simp at hu;subst hu;rw[show 0+i*1+0=i by omega,Array.getElem?_replicate,if_pos ‹_›]
 ·cases hi
def IsFirst(base p:Nat)(g:List Gr.Nd)(v:Value)(w:World): Prop:=∃(b:Nat) (ag:Option Addr) (cg:Nat),v = .agg #[.int .i64 0,.int .i64 0,.slice (some ⟨b,0,none⟩) p p,.slice ag g.length cg,.slice none 0 0,.slice none 0 0,.slice none 0 0]∧IntsZ base p (.slice (some ⟨b,0,none⟩) p p) w∧NodesV base g (.slice ag g.length cg) w
theorem IsFirst.st(base p:Nat)(g:List Gr.Nd): ∀v w w',IsFirst base p g v w→Grew w w'→IsFirst base p g v w':=fun _ _ _ ⟨b,a,c,h1,h2,h3⟩ q=>⟨b,a,c,h1,IntsZ.st _ _ _ _ _ h2 q,NodesV.st _ _ _ _ _ h3 q⟩
theorem IsFirst.keep{base p:Nat}{g:List Gr.Nd}{b:Nat}{ag:Option Addr}{cg:Nat}{w w':World}(h:IntsZ base p (.slice (some ⟨b,0,none⟩) p p) w∧NodesV base g (.slice ag g.length cg) w)(hk:∀b,base≤b→b<w.heap.size→w'.heap[b]? = w.heap[b]?)(hp:p≤100): IntsAt w' (.slice (some ⟨b,0,none⟩) p p) (List.replicate p 0)∧NodesAt w' (.slice ag g.length cg) g:=by
 refine⟨?_,(h.2.keep hk).at'⟩;obtain⟨⟨b',h1,h2,h3⟩,-⟩:=h;cases h1;exact IntsZ.ints ⟨b,rfl,h2,by rw[hk b h2 (heap_lt h3)];exact h3⟩ hp
def SameBut(r:Nat)(W W':World): Prop:=W.heap.size=W'.heap.size∧∀b,b≠r→W'.heap[b]? = W.heap[b]?
theorem SameBut.mk(w:World)(o o':Obj): SameBut w.heap.size (w.alloc o) (w.alloc o'):=by
 refine⟨by simp[World.size_alloc],fun b hb=>?_⟩;show(w.heap.push o')[b]? = (w.heap.push o)[b]?;rw[Array.getElem?_push,Array.getElem?_push,if_neg hb,if_neg hb]
theorem SameBut.more{r:Nat}{W W':World}(h:SameBut r W W')(R:Array Obj)(n:Nat): SameBut r (W.more R n) (W'.more R n):=by
 refine⟨by simp[World.more_size,h.1],fun b hb=>?_⟩;rcases Nat.lt_or_ge b W.heap.size with q|q
 ·rw[World.heap_more R n b q,World.heap_more R n b (by rw[←h.1];exact q)];exact h.2 b hb
 ·exact heap_more_same h.1 R n b q
theorem SameBut.alloc{r:Nat}{W W':World}(h:SameBut r W W')(o:Obj): SameBut r (W.alloc o) (W'.alloc o):=by
 refine⟨by simp[World.size_alloc,h.1],fun b hb=>?_⟩;show(W'.heap.push o)[b]? = (W.heap.push o)[b]?;rw[Array.getElem?_push,Array.getElem?_push,h.1];split
 ·rfl
 ·exact h.2 b hb
theorem SameBut.drewl{r:Nat}{W W':World}(h:SameBut r W W'): SameBut r W.drew W':=h
theorem SameBut.at{r:Nat}{W W':World}(h:SameBut r W W')(b:Nat)(hb:b≠r): W'.heap[b]? = W.heap[b]? :=h.2 b hb
theorem infoIntF:(Tryz.prog.info? 3).map (fun i=>(i.zero,i.size,i.bytes))=some (some (.int .i64 0),1,8):=by kernel_rfl
theorem make_ints(p:Nat)(hp3:p=1∨p=2∨p=3)(W:World): (Instr.makeSlice 43 (.int .i64 (p:Int)) (.int .i64 (p:Int))).run Tryz.prog W = .ok (.slice (some ⟨W.heap.size,0,none⟩) p p) (W.alloc (.cells (Array.replicate p (.int .i64 0)) 3)):=by
 obtain⟨i,hi,hz0,hz1,hz2⟩:=info_parts infoIntF;have h:=run_makeSlice (P:=Tryz.prog) W 43 3 i (.int .i64 0) Tryz.underlying43 hi hz0 .i64 .i64 (p:Int) (p:Int) (by omega) (by omega) (by rw[hz1];omega) (by rw[hz2];omega) (by omega);rw[h,hz1]
 have hm:∀q:Nat,q=1∨q=2∨q=3→madeCells (Value.int .i64 0).cells ((q:Int).toNat*1)=Array.replicate q (Value.int .i64 0):=fun q hq=>by
  rcases hq with rfl|rfl|rfl<;>kernel_rfl
 rw[hm p hp3,Int.toNat_natCast]
theorem first_any(v:Value)(g:List Gr.Nd)(w:World)(hv:NodesAt w v g)(hs:Small g): Calls Tryz.prog 35 #[v] w (FirstPost w g):=by
 have HC:=hY fun W (q:Grew w W)=>check_graph v g W (hv.grew q) hs
 by_cases hr:Gr.RightR g
 case neg =>
  refine Calls.mono (R:=Gives (.tuple #[.agg #[.int .i64 0,.int .i64 0,.slice none 0 0,.slice none 0 0,.slice none 0 0,.slice none 0 0,.slice none 0 0],.int .i64 10]) w) ?_ fun e w' h=>⟨fun q=>absurd q hr,fun _=>h.1,h.2⟩
  have hck:=checkR_pos hr;generalize checkR g=ck at *;obtain⟨a,cap,rfl,hm,-⟩:=hv.openC;clear hv hs hr;go_enter Tryz.func35,Tryz.ntmps35
  go_wp2_with (go_at_call 7;refine(HC.o _ gw).mono ?_;rintro e w1 ⟨rfl,R1,n1,rfl⟩)
  refine bodyPost_ret (v:=.tuple #[.agg #[.int .i64 0,.int .i64 0,.slice none 0 0,.slice none 0 0,.slice none 0 0,.slice none 0 0,.slice none 0 0],.int .i64 10]) (by simp[results,Tryz.results35,go_sem]) rfl ?_;refine⟨rfl,?_⟩
  repeat (first|with_reducible exact Grew.refl _|apply Grew.more|apply Grew.alloc|refine Grew.set ?_ (Nat.le_refl _) _)
 have hck:=checkR_nil hr;rw[hck] at HC;have hpr:=parOf_range hr;obtain⟨src,hsrc⟩:=source_some hr;have hpo:parOf g=src.par:=by unfold parOf;rw[hsrc]
 have HF:=hY fun W (q:Grew w W)=>find_any v g 0 W (hv.grew q) hs
 rw[hsrc] at HF;have HN:=hY fun W (q:Grew w W)=>normO_any v g W (hv.grew q) hs hr
 obtain⟨p,hp⟩:∃p:Nat,src.par=(p:Int):=⟨src.par.toNat,by omega⟩;have hp3:p=1∨p=2∨p=3:=by omega
 have hpn:(parOf g).toNat=p:=by omega
 have HPN:=hY hpn;have hmk:=make_ints p hp3;have HSP:=hY hp;have HP3:=hY hp3;have hp1:1≤p:=by omega
 have hp9:p≤3:=by omega
 obtain⟨a,cap,rfl,hm,-⟩:=hv.openC;refine Calls.mono (R:=fun e w'=>∃ao co ag cg,e = .returned (.tuple #[.agg #[.int .i64 0,.int .i64 0,.slice ao (parOf g).toNat co,.slice ag (Gr.normG g).length cg,.slice none 0 0,.slice none 0 0,.slice none 0 0],.int .i64 0])∧IntsAt w' (.slice ao (parOf g).toNat co) (List.replicate (parOf g).toNat 0)∧NodesAt w' (.slice ag (Gr.normG g).length cg) (Gr.normG g)∧Grew w w') ?_ fun e w' ⟨ao,co,ag,cg,h1,h2,h3,h4⟩=>⟨fun _=>⟨ao,co,ag,cg,h1,h2,h3⟩,fun q=>absurd hr q,h4⟩
 clear hv hs hr hck hpr hsrc hpo hpn hp hp3;rw[HPN.o];go_enter Tryz.func35,Tryz.ntmps35
 go_wp2_with (first
  | (go_at_call 7;refine(HC.o _ gw).mono ?_;rintro e w1 ⟨rfl,R1,n1,rfl⟩)
  | (go_at_call 76;refine(HF.o _ gw).mono ?_;rintro e w2 ⟨c9,rfl,hc9,-,R2,n2,rfl⟩;(have hcp:=hc9.par);rw[HSP.o] at hcp;(have HCP:=hY hcp);clear hc9 hcp))
 rw[←HCP.o];refine wp_region_seq 6 Tryz.mixed (by kernel_rfl) (by kernel_rfl) ?_
 iterate 2
  apply Seq.val
  focus
   rintro w1 u ⟨R1,n1,rfl⟩ hF;simp[moreFacts,Fact.more,Oper.deps,Region.binds,List.filter_cons,World.more_drew] at hF;simp[putFacts,Oper.deps,Region.binds,List.filter_cons,Region.dstOf,Fact.at,Act.put,World.more_drew];go_wp2;exact⟨gw,rfl,_,_,rfl,rfl,rfl⟩
 apply Seq.of (IntsZ (w.heap.size+1) p) (IntsZ.st _ p)
 focus
  rintro w1 u ⟨R1,n1,rfl⟩ hF;simp[moreFacts,Fact.more,Oper.deps,Region.binds,List.filter_cons,World.more_drew] at hF;simp[putFacts,Oper.deps,Region.binds,List.filter_cons,Region.dstOf,Fact.at,Act.put,World.more_drew]
  go_wp2_with fail
  exact⟨gw,rfl,_,_,rfl,rfl,⟨_,rfl,by first|omega|(simp[go_sem];omega),heap_new_at _ _ _ (by first|rfl|simp[go_sem]|(simp[go_sem];omega))⟩⟩
 iterate 1
  apply Seq.val
  focus
   rintro w1 u ⟨R1,n1,rfl⟩ hF;simp[moreFacts,Fact.more,Oper.deps,Region.binds,List.filter_cons,World.more_drew] at hF;simp[putFacts,Oper.deps,Region.binds,List.filter_cons,Region.dstOf,Fact.at,Act.put,World.more_drew];go_wp2;exact⟨gw,rfl,_,_,rfl,rfl,rfl⟩
 apply Seq.of (NodesV (w.heap.size+1) (Gr.normG g)) (NodesV.st _ _)
 focus
  rintro w1 u ⟨R1,n1,rfl⟩ hF;simp[moreFacts,Fact.more,Oper.deps,Region.binds,List.filter_cons,World.more_drew] at hF;simp[putFacts,Oper.deps,Region.binds,List.filter_cons,Region.dstOf,Fact.at,Act.put,World.more_drew]
  go_wp2_with (first
   | (go_at_call 55;go_loud (refine(HN.o _ gw).mono ?_);rintro e w3 ⟨v3,lc3,rfl,hv3,hi3,R3,n3,rfl⟩;obtain⟨a3,c3,hv9,-,-⟩:=(hi3.at hv3).openC;subst hv9;(have HV3:Hid (NodesV _ (Gr.normG g) _ _):=hY ⟨a3,c3,lc3,rfl,hv3,hi3⟩);clear hv3 hi3)
   )
  exact⟨gw,rfl,_,_,rfl,rfl,NodesV.low HV3.o (by simp[go_sem];omega)⟩
 apply Seq.of (IsFirst (w.heap.size+1) p (Gr.normG g)) (IsFirst.st _ _ _)
 focus
  rintro w1 u ⟨R1,n1,rfl⟩ hF;simp[moreFacts,Fact.more,Oper.deps,Region.binds,List.filter_cons,World.more_drew] at hF;simp[putFacts,Oper.deps,Region.binds,List.filter_cons,Region.dstOf,Fact.at,Act.put,World.more_drew];obtain⟨⟨b2,hu2,h2⟩,a4,c4,lc4,hu4,h4⟩:=hF;rw[hu2,hu4];(have H2:=hY h2);(have H4:=hY h4);clear h2 h4;go_wp2;exact⟨gw,rfl,_,_,rfl,rfl,⟨_,_,_,rfl,⟨_,rfl,H2.o⟩,⟨_,_,_,rfl,by rw[←hu4];exact H4.o⟩⟩⟩
 rintro u w1 ⟨R4,n4,rfl⟩ hF;simp[moreFacts,Fact.more,apartFacts,Fact.isNew,List.range_succ] at hF;simp[putFacts,Region.dstOf,Fact.at,Act.put,List.range_succ,World.more_drew];obtain⟨-,-,b9,ag9,cg9,hu9,h9⟩:=hF;rw[hu9];have H9:=hY h9;clear h9
 go_wp2_with fail
 refine bodyPost_ret (v:=.tuple #[.agg #[.int .i64 0,.int .i64 0,.slice (some ⟨b9,0,none⟩) p p,.slice ag9 (Gr.normG g).length cg9,.slice none 0 0,.slice none 0 0,.slice none 0 0],.int .i64 0]) (by simp[results,Tryz.results35,go_sem]) rfl ?_;refine⟨_,_,_,_,rfl,?_⟩;rw[←and_assoc];refine⟨IsFirst.keep H9.o (fun b hb _=>SameBut.at (r:=w.heap.size) ?_ b (by omega)) (by omega),gw⟩
 repeat (first|with_reducible exact SameBut.mk _ _ _|with_reducible apply SameBut.more|with_reducible apply SameBut.alloc|with_reducible apply SameBut.drewl)
theorem sumStep_any(x c:Int)(w:World): Calls Tryz.prog 189 #[.int .u32 x,.int .u8 c] w fun e w'=>∃y:Int,Gives (.int .u32 y) w e w':=by
 go_enter Tryz.func189,Tryz.ntmps189;go_wp2
 go_loopg [0,10] 8 (fun gg s0 s10 wr=>∃k:Nat,k≤8∧8-k≤gg∧s10 = .int .i64 k∧(∃y:Int,s0 = .int .u32 y)∧wr=w)
 case atStart=>exact⟨0,by omega,by omega,rfl,⟨_,rfl⟩,rfl⟩
 case round =>
  obtain⟨k,hk,hgg,rfl,⟨y,rfl⟩,rfl⟩:=hrel;by_cases hlt:k<8
  ·have hb:(k:Int)<8:=by omega
   go_wp2
   all_goals
    go_roundg (8-(k+1))
    case measure=>omega
    case rel=>exact⟨k+1,by omega,by omega,by go_num,⟨_,rfl⟩,rfl⟩
  ·obtain rfl:k=8:=by omega
   have hb:¬((8:Int)<8):=by omega
   go_wp2;go_ret;exact⟨_,rfl,Grew.refl _⟩
theorem manyS_succ{α:Type}(rd:Gr.Rs→α×Gr.Rs): ∀(k:Nat) (s:Gr.Rs),Gr.manyS rd (k+1) s=((Gr.manyS rd k s).1++[(rd (Gr.manyS rd k s).2).1],(rd (Gr.manyS rd k s).2).2)
 | 0,s=>rfl
 |k+1,s=>by
  have ih:=manyS_succ rd k (rd s).2;rw[Gr.manyS,ih];rfl
theorem manyS_len{α:Type}{rd:Gr.Rs→α×Gr.Rs}(h:∀s,(rd s).2.1.length≤s.1.length): ∀(k:Nat) (s:Gr.Rs),(Gr.manyS rd k s).1.length=k∧(Gr.manyS rd k s).2.1.length≤s.1.length
 | 0,s=>⟨rfl,Nat.le_refl _⟩
 |k+1,s=>by
  obtain⟨h1,h2⟩:=manyS_len h k (rd s).2;refine⟨?_,?_⟩
  ·rw[Gr.manyS,List.length_cons,h1]
  ·rw[Gr.manyS];exact Nat.le_trans h2 (h s)
theorem manyS_list(a b:Int): ∀(k:Nat) (s:Gr.Rs),Gr.manyS (Gr.numS a b) k s=Gr.listS a b k s
 | 0,s=>rfl
 | k+1,s=>by rw[Gr.manyS,Gr.listS,manyS_list a b k]
theorem manyS_nodes(lp:Int): ∀(k:Nat) (s:Gr.Rs),Gr.manyS (Gr.nodeS getL lp) k s=Gr.nodesS getL lp k s
 | 0,s=>rfl
 | k+1,s=>by rw[Gr.manyS,Gr.nodesS,manyS_nodes lp k]
theorem enS_eq{s s1 s2 s3 s4:Gr.Rs}{a b:Int}{c d:Int×Int}(h1:Gr.numS 0 7 s=(a,s1))(h2:Gr.numS 0 63 s1=(b,s2))(h3:Gr.valS s2=(c,s3))(h4:Gr.valS s3=(d,s4)): Gr.enS s=(⟨a,b,c,d⟩,s4):=by
 unfold Gr.enS Gr.mapS;rw[pairS_eq (pairS_eq (pairS_eq h1 h2) h3) h4]
theorem lnS_eq{s s1 s2 s3 s4:Gr.Rs}{a b c:Int}{d:Int×Int}(h1:Gr.numS 0 7 s=(a,s1))(h2:Gr.numS 0 7 s1=(b,s2))(h3:Gr.numS 0 63 s2=(c,s3))(h4:Gr.valS s3=(d,s4)): Gr.lnS s=(⟨a,b,c,d⟩,s4):=by
 unfold Gr.lnS Gr.mapS;rw[pairS_eq (pairS_eq (pairS_eq h1 h2) h3) h4]
theorem enS_len(s:Gr.Rs): (Gr.enS s).2.1.length≤s.1.length:=by
 rw[enS_eq rfl rfl rfl rfl];exact Nat.le_trans (valS_len _) (Nat.le_trans (valS_len _) (Nat.le_trans (numS_len _ _ _) (numS_len _ _ _)))
theorem lnS_len(s:Gr.Rs): (Gr.lnS s).2.1.length≤s.1.length:=by
 rw[lnS_eq rfl rfl rfl rfl];exact Nat.le_trans (valS_len _) (Nat.le_trans (numS_len _ _ _) (Nat.le_trans (numS_len _ _ _) (numS_len _ _ _)))
theorem manS_eq{s s1 s2 s3 s4 s5 s6 s7 s8 s9 s10 s11:Gr.Rs}{ep pl n3 n5 n7 n9:Int}{os:List Int}{gr:List Gr.Nd}{es:List Tab.En}{ls:List Gr.Ln}{p:List Gr.Stp}
  (h1:Gr.numS 0 2147483647 s=(ep,s1)) (h2:Gr.numS 0 2147483647 s1=(pl,s2)) (h3:Gr.numS 0 3 s2=(n3,s3)) (h4:Gr.listS 0 400 n3.toNat s3=(os,s4)) (h5:Gr.numS 0 8 s4=(n5,s5)) (h6:Gr.nodesS getL 1 n5.toNat s5=(gr,s6))
  (h7:Gr.numS 0 512 s6=(n7,s7)) (h8:Gr.manyS Gr.enS n7.toNat s7=(es,s8)) (h9:Gr.numS 0 4000 s8=(n9,s9)) (h10:Gr.manyS Gr.lnS n9.toNat s9=(ls,s10)) (h11:Gr.plS getL s10=(p,s11)) :
  Gr.manS getL s=(⟨ep,pl,os,gr,es,ls,p⟩,s11):=by
 have c4:Gr.cntS (Gr.numS 0 400) 3 s2=(os,s4):=by unfold Gr.cntS;rw[h3,manyS_list];exact h4
 have c6:Gr.cntS (Gr.nodeS getL 1) 8 s4=(gr,s6):=by unfold Gr.cntS;rw[h5,manyS_nodes];exact h6
 have c8:Gr.cntS Gr.enS 512 s6=(es,s8):=by unfold Gr.cntS;rw[h7];exact h8
 have c10:Gr.cntS Gr.lnS 4000 s8=(ls,s10):=by unfold Gr.cntS;rw[h9];exact h10
 unfold Gr.manS Gr.mapS;rw[pairS_eq h1 (pairS_eq h2 (pairS_eq c4 (pairS_eq c6 (pairS_eq c8 (pairS_eq c10 h11)))))]
theorem getPl_small3(s:List UInt8): ∀x∈(Gr.getPl getL s).1,x.nd.frm.length≤3∧x.nd.prog.length≤24:=by
 obtain⟨l,⟨z,x⟩,hg⟩:∃l t,Gr.planS getL s=(l,t):=⟨_,_,rfl⟩;rw[getPl_end hg];have h:=stepsS_small (Gr.numS 1 6 (s,0)).1.toNat (Gr.numS 1 6 (s,0)).2;unfold Gr.planS at hg;rw[hg] at h;split
 ·exact h
 ·intro y hy;cases hy
theorem plS_small(s:Gr.Rs): ∀x∈(Gr.plS getL s).1,x.nd.frm.length≤3∧x.nd.prog.length≤24:=by
 unfold Gr.plS;split
 ·intro y hy;cases hy
 ·exact getPl_small3 _
def Same(t:TypeId)(w w':World): Prop:=∀(q:Nat) (c:Array Value),w.heap[q]? = some (.cells c t)→w'.heap[q]? = w.heap[q]?
def zeroM:Array Value:=#[.int .i64 0,.int .i64 0,.slice none 0 0,.slice none 0 0,.slice none 0 0,.slice none 0 0,.slice none 0 0]
structure ManSt (w0:World) (Z T A B:Nat) (W:World) (cs:Array Value) (vo vg ve vl:Value) (os:List Int) (lc:List NdC) (gr:List Gr.Nd) (es:List Tab.En) (ls:List Gr.Ln) (s:Gr.Rs):Prop where
 t:W.heap[T]? = some (.cells cs 47)
 b:w0.heap.size≤T
 o:OwnAt w0.heap.size 3 1 encN W vo os
 g:NodesOwn w0.heap.size W vg lc
 gi:NodesIn w0.heap.size W lc gr
 e:OwnAt w0.heap.size 115 6 encEn W ve es
 l:OwnAt w0.heap.size 122 5 encLn W vl ls
 r:RdAt w0.heap.size A B W s
 w:Grew w0 W
 z:W.heap[Z]? = some (.cells zeroM 47)
 zt:T≠Z
section
variable {w0:World} {Z T A B:Nat} {W W':World} {cs:Array Value} {vo vg ve vl:Value} {os:List Int} {lc:List NdC} {gr:List Gr.Nd} {es:List Tab.En} {ls:List Gr.Ln} {s s':Gr.Rs}
theorem NodesIn.sameT{base:Nat}{w w':World}{lc:List NdC}{l:List Gr.Nd}(h:NodesIn base w lc l)(h1:Same 3 w w')(h2:Same 187 w w'): NodesIn base w' lc l :=
 Rel.mono (fun c n ⟨a,o⟩=>by
  have o':OwnsNd base w' c n:=⟨OwnAt.same o.1 fun b hb=>by obtain⟨-,x,hx⟩:=OwnAt.block o.1 hb;exact h1 b x hx,OwnAt.same o.2 fun b hb=>by obtain⟨-,x,hx⟩:=OwnAt.block o.2 hb;exact h2 b x hx⟩
  exact⟨o'.is a,o'⟩) h
theorem OwnAt.sameT{α:Type}{base:Nat}{e:TypeId}{k:Nat}{enc:α→List Value}{w w':World}{v:Value}{l:List α}(h:OwnAt base e k enc w v l)(hs:Same e w w'): OwnAt base e k enc w' v l :=
 OwnAt.same h fun b hb=>by obtain⟨-,x,hx⟩:=OwnAt.block h hb;exact hs b x hx
theorem Same.keep2{t:TypeId}(k:Keep2 A B W W')(h:RdAt w0.heap.size A B W s)(h1:t≠161:=by decide)(h2:t≠214:=by decide): Same t W W':=fun q c hq =>
 k.2 q (heap_lt hq) (fun e=>by subst e;have:=h.2.1;rw[hq] at this;cases this;exact h1 rfl) fun e=>by subst e;have:=h.2.2.2;rw[hq] at this;cases this;exact h2 rfl
theorem ManSt.keep2(M:ManSt w0 Z T A B W cs vo vg ve vl os lc gr es ls s)(k:Keep2 A B W W')(r:RdAt w0.heap.size A B W' s')(g:Grew w0 W'): ManSt w0 Z T A B W' cs vo vg ve vl os lc gr es ls s' :=
 ⟨by rw[(Same.keep2 k M.r:Same _ W W') T cs M.t];exact M.t,M.b,OwnAt.sameT M.o (Same.keep2 k M.r),OwnAt.sameT M.g (Same.keep2 k M.r),M.gi.sameT (Same.keep2 k M.r) (Same.keep2 k M.r),OwnAt.sameT M.e (Same.keep2 k M.r),OwnAt.sameT M.l (Same.keep2 k M.r),r,g,by rw[(Same.keep2 k M.r:Same _ W W') Z _ M.z];exact M.z,M.zt⟩
theorem ManSt.grew(M:ManSt w0 Z T A B W cs vo vg ve vl os lc gr es ls s)(g:Grew W W'): ManSt w0 Z T A B W' cs vo vg ve vl os lc gr es ls s :=
 ⟨grew_heap g M.t,M.b,OwnAt.grew M.o g,OwnAt.grew M.g g,M.gi.grew g,OwnAt.grew M.e g,OwnAt.grew M.l g,M.r.grew g,M.w.trans g,grew_heap g M.z,M.zt⟩
theorem Same.but{N:Nat}{t t2:TypeId}{c:Array Value}(k:But N W W')(h:W.heap[N]? = some (.cells c t2))(h1:t2≠t:=by decide): Same t W W':=fun q x hq =>
 k q fun e=>by subst e;rw[hq] at h;cases h;exact h1 rfl
theorem ManSt.new{N:Nat}{t:TypeId}{c:Array Value}(M:ManSt w0 Z T A B W cs vo vg ve vl os lc gr es ls s)(k:But N W W')(h:W.heap[N]? = some (.cells c t))(ht:t=115∨t=122)(he:ve.ownBlock≠some N)(hl:vl.ownBlock≠some N)(g:Grew w0 W'): ManSt w0 Z T A B W' cs vo vg ve vl os lc gr es ls s:=by
 have hne:∀u:TypeId,u≠115→u≠122→t≠u:=fun u h1 h2 e=>by subst e;exact ht.elim h1 h2
 have hk:∀u:TypeId,u≠115→u≠122→Same u W W':=fun u h1 h2=>Same.but k h (hne u h1 h2)
 refine⟨by rw[hk _ (by decide) (by decide) T cs M.t];exact M.t,M.b,OwnAt.sameT M.o (hk _ (by decide) (by decide)),OwnAt.sameT M.g (hk _ (by decide) (by decide)),M.gi.sameT (hk _ (by decide) (by decide)) (hk _ (by decide) (by decide)),OwnAt.butNe M.e k he,OwnAt.butNe M.l k hl,?_,g,by rw[hk _ (by decide) (by decide) Z _ M.z];exact M.z,M.zt⟩;exact⟨M.r.1,by rw[hk _ (by decide) (by decide) A _ M.r.2.1];exact M.r.2.1,M.r.2.2.1,by rw[hk _ (by decide) (by decide) B _ M.r.2.2.2];exact M.r.2.2.2⟩
theorem ManSt.put{i:Nat}{v:Value}(M:ManSt w0 Z T A B W cs vo vg ve vl os lc gr es ls s): ManSt w0 Z T A B (W.setCell ⟨T,i,none⟩ v) (cs.setIfInBounds i v) vo vg ve vl os lc gr es ls s:=by
 have hb:But T W (W.setCell ⟨T,i,none⟩ v):=fun q hq=>set_other fun e=>hq e.symm
 have hk:∀u:TypeId,47≠u→Same u W (W.setCell ⟨T,i,none⟩ v):=fun u hu=>Same.but hb M.t hu
 refine⟨set_self M.t,M.b,OwnAt.sameT M.o (hk _ (by decide)),OwnAt.sameT M.g (hk _ (by decide)),M.gi.sameT (hk _ (by decide)) (hk _ (by decide)),OwnAt.sameT M.e (hk _ (by decide)),OwnAt.sameT M.l (hk _ (by decide)),?_,M.w.set M.b _,by rw[set_other M.zt];exact M.z,M.zt⟩;exact⟨M.r.1,by rw[hk _ (by decide) A _ M.r.2.1];exact M.r.2.1,M.r.2.2.1,by rw[hk _ (by decide) B _ M.r.2.2.2];exact M.r.2.2.2⟩
theorem Same.app{α:Type}{t e:TypeId}{k:Nat}{enc:α→List Value}{v v':Value}{l l2:List α}{base:Nat}(ho:OwnAt base e k enc W v l)(hA:Appended w0 e k enc W v l2 v' W')(h1:t≠e:=by decide): Same t W W':=fun q _ hq=>hA.2.2.2.1 q (heap_lt hq) (OwnAt.other ho hq h1)
theorem ManSt.appE{v':Value}{es':List Tab.En}(M:ManSt w0 Z T A B W cs vo vg ve vl os lc gr es ls s)(hA:Appended w0 115 6 encEn W ve es' v' W'): ManSt w0 Z T A B W' cs vo vg v' vl os lc gr es' ls s :=
 ⟨by rw[Same.app M.e hA (by decide) T cs M.t];exact M.t,M.b,OwnAt.sameT M.o (Same.app M.e hA),OwnAt.sameT M.g (Same.app M.e hA),M.gi.sameT (Same.app M.e hA) (Same.app M.e hA),hA.2.1,OwnAt.sameT M.l (Same.app M.e hA),RdAt.app M.r M.e hA,hA.1,by rw[Same.app M.e hA (by decide) Z _ M.z];exact M.z,M.zt⟩
theorem ManSt.appL{v':Value}{ls':List Gr.Ln}(M:ManSt w0 Z T A B W cs vo vg ve vl os lc gr es ls s)(hA:Appended w0 122 5 encLn W vl ls' v' W'): ManSt w0 Z T A B W' cs vo vg ve v' os lc gr es ls' s :=
 ⟨by rw[Same.app M.l hA (by decide) T cs M.t];exact M.t,M.b,OwnAt.sameT M.o (Same.app M.l hA),OwnAt.sameT M.g (Same.app M.l hA),M.gi.sameT (Same.app M.l hA) (Same.app M.l hA),OwnAt.sameT M.e (Same.app M.l hA),hA.2.1,RdAt.app M.r M.l hA,hA.1,by rw[Same.app M.l hA (by decide) Z _ M.z];exact M.z,M.zt⟩
theorem ManSt.setO{vo':Value}{os':List Int}(M:ManSt w0 Z T A B W cs vo vg ve vl os lc gr es ls s)(h:OwnAt w0.heap.size 3 1 encN W vo' os'): ManSt w0 Z T A B W cs vo' vg ve vl os' lc gr es ls s:=⟨M.t,M.b,h,M.g,M.gi,M.e,M.l,M.r,M.w,M.z,M.zt⟩
theorem ManSt.setG{vg':Value}{lc':List NdC}{gr':List Gr.Nd}(M:ManSt w0 Z T A B W cs vo vg ve vl os lc gr es ls s)(h:NodesOwn w0.heap.size W vg' lc')(hi:NodesIn w0.heap.size W lc' gr'): ManSt w0 Z T A B W cs vo vg' ve vl os lc' gr' es ls s:=⟨M.t,M.b,M.o,h,hi,M.e,M.l,M.r,M.w,M.z,M.zt⟩
theorem NodesIn.lower{base base':Nat}{w:World}{lc:List NdC}{l:List Gr.Nd}(h:NodesIn base w lc l)(hb:base'≤base): NodesIn base' w lc l:=Rel.mono (fun c s ⟨h1,h2⟩=>⟨h1,h2.low hb⟩) h
theorem ManSt.neE(M:ManSt w0 Z T A B W cs vo vg ve vl os lc gr es ls s){N:Nat}(h:W.heap.size≤N): ve.ownBlock≠some N∧vl.ownBlock≠some N:=by
 refine⟨fun e=>?_,fun e=>?_⟩
 ·obtain⟨-,x,hx⟩:=OwnAt.block M.e e;have:=heap_lt hx;omega
 ·obtain⟨-,x,hx⟩:=OwnAt.block M.l e;have:=heap_lt hx;omega
end
theorem infoLn:(Tryz.prog.info? 122).map (fun i=>(i.zero,i.size,i.bytes))=some (some (.agg #[.int .i64 0,.int .i64 0,.int .i64 0,.int .i64 0,.int .i64 0]),5,40):=by kernel_rfl
theorem ln_at(W:World)(x:Gr.Ln)(t:TypeId)(b:Nat){c:Array Value}(hc:c=(encLn x).toArray)(hb:b=W.heap.size): ∀j u,(([x]:List Gr.Ln).flatMap encLn)[j]? = some u→(W.alloc (.cells c t)).cell? ⟨b,j,none⟩=some u:=by
 subst hc;intro j u hu;rw[new_cells W _ t b hb j];simpa using hu
theorem rd_new2(w:World)(ob:Obj)(s:List UInt8): RdAt w.heap.size (w.heap.size+1+1) (w.heap.size+1) (((w.alloc ob).alloc (.cells #[.string ⟨s.toArray⟩] 214)).alloc (.cells #[.pointer (some ⟨w.heap.size+1,0,none⟩),.int .i64 0] 161)) (s,0):=by
 have h:=rd_new (w.alloc ob) s;rw[World.size_alloc] at h;exact⟨by omega,h.2.1,by omega,h.2.2.2⟩
theorem butTwo{N i j:Nat}{W:World}{a b:Value}: But N W ((W.setCell ⟨N,i,none⟩ a).setCell ⟨N,j,none⟩ b):=fun q hq=>by rw[set_other (fun e=>hq e.symm),set_other (fun e=>hq e.symm)]
def zeroMg:Gr.Mf:=⟨0,0,[],[],[],[],[]⟩
noncomputable def getMB(s:List UInt8): Gr.Mf×Int :=
 if endE (Gr.manS getL (s,0)).2 true≠0 then (zeroMg,endE (Gr.manS getL (s,0)).2 true) else if rightB (Gr.manS getL (s,0)).1=true then ((Gr.manS getL (s,0)).1,0) else (zeroMg,1)
theorem endE_same{s s':Gr.Rs}(h:s'.2=s.2)(h2:s'.2=0→s'=s): endE s' true=endE s true:=by
 by_cases h0:s'.2=0
 ·rw[h2 h0]
 ·unfold endE;rw[if_pos h0,if_pos (by rw[←h];exact h0),h]
structure MfOwn (base:Nat) (w:World) (c:MfC) (m:Gr.Mf):Prop where
 epoch:m.epoch=c.epoch
 plans:m.plans=c.plans
 o:OwnAt base 3 1 encN w (.slice c.ao c.no c.co) m.offs
 g:∃lc,NodesOwn base w (.slice c.ag c.ng c.cg) lc∧NodesIn base w lc m.graph
 e:OwnAt base 115 6 encEn w (.slice c.ae c.ne c.ce) m.ents
 x:OwnAt base 122 5 encLn w (.slice c.ax c.nx c.cx) m.out
 p:∃lp,StepsOwn base w (.slice c.ap c.np c.cp) lp∧StepsIn base w lp m.plan
theorem MfOwn.is{base:Nat}{w:World}{c:MfC}{m:Gr.Mf}(h:MfOwn base w c m): MfIs w c m:=by
 obtain⟨lc,h1,h2⟩:=h.g;obtain⟨lp,h3,h4⟩:=h.p;exact⟨h.epoch,h.plans,OwnAt.rows h.o encN_len,h2.at h1,OwnAt.rows h.e encEn_len,OwnAt.rows h.x encLn_len,h4.at h3⟩
theorem mf_zero(base:Nat)(w:World): MfOwn base w ⟨0,0,none,0,0,none,0,0,none,0,0,none,0,0,none,0,0⟩ zeroMg:=⟨rfl,rfl,OwnAt.nil w,⟨[],OwnAt.nil w,trivial⟩,OwnAt.nil w,OwnAt.nil w,⟨[],OwnAt.nil w,trivial⟩⟩
theorem StepsIn.sameT{base:Nat}{w w':World}{lc:List StC}{l:List Gr.Stp}(h:StepsIn base w lc l)(h1:Same 3 w w')(h2:Same 187 w w'): StepsIn base w' lc l :=
 Rel.mono (fun c n ⟨a,o⟩=>by
  have o':OwnsNd base w' c.c n.nd:=⟨OwnAt.sameT o.1 h1,OwnAt.sameT o.2 h2⟩
  exact⟨⟨a.kind,o'.is a.nd,a.reset⟩,o'⟩) h
theorem mf_done{w0:World}{Z T A B:Nat}{W W':World}{cs:Array Value}{ep pl:Int}{a3 a5 a8 a10 a11:Option Addr}{n3 n5 n8 n10 n11 b3 b5 b8 b10 b11:Nat}{os:List Int}{lc:List NdC}{gr:List Gr.Nd}{es:List Tab.En}{ls:List Gr.Ln}{s:Gr.Rs}{lp:List StC}{p:List Gr.Stp}
  (M:ManSt w0 Z T A B W cs (.slice a3 n3 b3) (.slice a5 n5 b5) (.slice a8 n8 b8) (.slice a10 n10 b10) os lc gr es ls s) (ho:StepsOwn w0.heap.size W (.slice a11 n11 b11) lp) (hi:StepsIn w0.heap.size W lp p) (hS:∀u,47≠u→Same u W W') :
  MfOwn w0.heap.size W' ⟨ep,pl,a3,n3,b3,a5,n5,b5,a8,n8,b8,a10,n10,b10,a11,n11,b11⟩ ⟨ep,pl,os,gr,es,ls,p⟩ :=
 ⟨rfl,rfl,OwnAt.sameT M.o (hS _ (by decide)),⟨_,OwnAt.sameT M.g (hS _ (by decide)),M.gi.sameT (hS _ (by decide)) (hS _ (by decide))⟩,OwnAt.sameT M.e (hS _ (by decide)),OwnAt.sameT M.l (hS _ (by decide)),⟨_,OwnAt.sameT ho (hS _ (by decide)),hi.sameT (hS _ (by decide)) (hS _ (by decide))⟩⟩
theorem Same.refl(t:TypeId)(W:World): Same t W W:=fun _ _ _=>rfl
theorem Same.trans{t:TypeId}{a b c:World}(h:Same t a b)(k:Same t b c): Same t a c:=fun q x hq=>by
 have e:=h q x hq;rw[←e];exact k q x (by rw[e];exact hq)
theorem Same.grew{t:TypeId}{W W':World}(g:Grew W W'): Same t W W':=fun _ _ h=>(grew_heap g h).trans h.symm
theorem man_set7{W:World}{q:Nat}{t:TypeId}{u0 u1 u2 u3 u4 u5 u6:Value}(h:W.heap[q]? = some (.cells #[u0,u1,u2,u3,u4,u5,u6] t))(v0 v1 v2 v3 v4 v5 v6:Value): (((((((W.setCell ⟨q,0,none⟩ v0).setCell ⟨q,1,none⟩ v1).setCell ⟨q,2,none⟩ v2).setCell ⟨q,3,none⟩ v3).setCell ⟨q,4,none⟩ v4).setCell ⟨q,5,none⟩ v5).setCell ⟨q,6,none⟩ v6).heap[q]? = some (.cells #[v0,v1,v2,v3,v4,v5,v6] t):=by
 have h0:=set_self (o:=0) (v:=v0) h;simp at h0;have h1:=set_self (o:=1) (v:=v1) h0;simp at h1;have h2:=set_self (o:=2) (v:=v2) h1;simp at h2;have h3:=set_self (o:=3) (v:=v3) h2;simp at h3;have h4:=set_self (o:=4) (v:=v4) h3;simp at h4;have h5:=set_self (o:=5) (v:=v5) h4;simp at h5;have h6:=set_self (o:=6) (v:=v6) h5;simp at h6;exact h6
theorem but7{N:Nat}{W:World}{a b c d e f g:Value}: But N W (((((((W.setCell ⟨N,0,none⟩ a).setCell ⟨N,1,none⟩ b).setCell ⟨N,2,none⟩ c).setCell ⟨N,3,none⟩ d).setCell ⟨N,4,none⟩ e).setCell ⟨N,5,none⟩ f).setCell ⟨N,6,none⟩ g):=fun q hq=>by iterate 7 rw[set_other (fun e=>hq e.symm)]
theorem Grew.set7{w0 W:World}{N:Nat}(g0:Grew w0 W)(hb:w0.heap.size≤N){a b c d e f g:Value}: Grew w0 (((((((W.setCell ⟨N,0,none⟩ a).setCell ⟨N,1,none⟩ b).setCell ⟨N,2,none⟩ c).setCell ⟨N,3,none⟩ d).setCell ⟨N,4,none⟩ e).setCell ⟨N,5,none⟩ f).setCell ⟨N,6,none⟩ g):=by
 iterate 7 refine Grew.set ?_ hb _
 exact g0
def GetMPost(r:Gr.Mf×Int)(w:World)(e:Ending)(w':World): Prop:=∃c:MfC,e = .returned (.tuple #[.agg #[.int .i64 c.epoch,.int .i64 c.plans,.slice c.ao c.no c.co,.slice c.ag c.ng c.cg,.slice c.ae c.ne c.ce,.slice c.ax c.nx c.cx,.slice c.ap c.np c.cp],.int .i64 r.2])∧MfIs w' c r.1∧Grew w w'
def GetMOPost(r:Gr.Mf×Int)(w:World)(e:Ending)(w':World): Prop:=∃c:MfC,e = .returned (.tuple #[.agg #[.int .i64 c.epoch,.int .i64 c.plans,.slice c.ao c.no c.co,.slice c.ag c.ng c.cg,.slice c.ae c.ne c.ce,.slice c.ax c.nx c.cx,.slice c.ap c.np c.cp],.int .i64 r.2])∧MfOwn w.heap.size w' c r.1∧Grew w w'
theorem getManO_any(s:List UInt8)(w:World)(hs:s.length≤100000): Calls Tryz.prog 40 #[.string ⟨s.toArray⟩] w (GetMOPost (getMB s) w):=by
 have n1:=fun W h g=>rdNum_any w (w.heap.size+1+1) (w.heap.size+1) (s,0) 0 2147483647 W h g (by simp only;omega)
 have z1:=numS_len 0 2147483647 (s,0);obtain⟨ep,s1,e1⟩:∃x t,Gr.numS 0 2147483647 (s,0)=(x,t):=⟨_,_,rfl⟩;rw[e1] at n1 z1;simp only at z1;have n2:=fun W h g=>rdNum_any w (w.heap.size+1+1) (w.heap.size+1) s1 0 2147483647 W h g (by omega)
 have z2:=numS_len 0 2147483647 s1;obtain⟨pl,s2,e2⟩:∃x t,Gr.numS 0 2147483647 s1=(x,t):=⟨_,_,rfl⟩;rw[e2] at n2 z2;simp only at z2;have n3:=fun W h g=>rdList_any w (w.heap.size+1+1) (w.heap.size+1) s2 3 0 400 W h g (by omega) (by decide) (by decide)
 have z3:=numS_len 0 3 s2;obtain⟨c3,s3,e3⟩:∃x t,Gr.numS 0 3 s2=(x,t):=⟨_,_,rfl⟩;rw[e3] at n3 z3;simp only at z3 n3;have z4:=(listS_len 0 400 c3.toNat s3).2;obtain⟨os,s4,e4⟩:∃x t,Gr.listS 0 400 c3.toNat s3=(x,t):=⟨_,_,rfl⟩;rw[e4] at n3 z4;simp only at z4 n3;have n5:=fun W h g=>rdNodes_any w (w.heap.size+1+1) (w.heap.size+1) s4 W h g (by omega)
 have z5:=numS_len 0 8 s4;obtain⟨c5,s5,e5⟩:∃x t,Gr.numS 0 8 s4=(x,t):=⟨_,_,rfl⟩;rw[e5] at n5 z5;simp only at z5 n5;have z6:=(nodesS_len 1 c5.toNat s5).2;have q6:=nodesS_small 1 c5.toNat s5;obtain⟨gr,s6,e6⟩:∃x t,Gr.nodesS getL 1 c5.toNat s5=(x,t):=⟨_,_,rfl⟩;rw[e6] at n5 z6 q6;simp only at z6 n5 q6;have n7:=fun W h g=>rdNum_any w (w.heap.size+1+1) (w.heap.size+1) s6 0 512 W h g (by omega)
 have z7:=numS_len 0 512 s6;have r7:=numS_range (a:=0) (b:=512) s6 (by decide) (by decide);obtain⟨c7,s7,e7⟩:∃x t,Gr.numS 0 512 s6=(x,t):=⟨_,_,rfl⟩;rw[e7] at n7 z7 r7;simp only at z7 r7;obtain⟨N,rfl⟩:∃N:Nat,c7=N:=⟨c7.toNat,by omega⟩;have l8:=(manyS_len enS_len N s7).1;have z8:=(manyS_len enS_len N s7).2;obtain⟨es,s8,e8⟩:∃x t,Gr.manyS Gr.enS N s7=(x,t):=⟨_,_,rfl⟩;rw[e8] at z8 l8;simp only at z8 l8;have n9:=fun W h g=>rdNum_any w (w.heap.size+1+1) (w.heap.size+1) s8 0 4000 W h g (by omega)
 have z9:=numS_len 0 4000 s8;have r9:=numS_range (a:=0) (b:=4000) s8 (by decide) (by decide);obtain⟨c9,s9,e9⟩:∃x t,Gr.numS 0 4000 s8=(x,t):=⟨_,_,rfl⟩;rw[e9] at n9 z9 r9;simp only at z9 r9;obtain⟨N2,rfl⟩:∃N2:Nat,c9=N2:=⟨c9.toNat,by omega⟩;have z10:=(manyS_len lnS_len N2 s9).2;have l10:=(manyS_len lnS_len N2 s9).1;obtain⟨ls,s10,e10⟩:∃x t,Gr.manyS Gr.lnS N2 s9=(x,t):=⟨_,_,rfl⟩;rw[e10] at z10 l10;simp only at z10 l10;have n11:=fun W h g=>rdPlan_any w (w.heap.size+1+1) (w.heap.size+1) s10 W h g (by omega)
 have q11:=plS_small s10;obtain⟨p,s11,e11⟩:∃x t,Gr.plS getL s10=(x,t):=⟨_,_,rfl⟩;rw[e11] at n11 q11;simp only at q11;have hm:=manS_eq e1 e2 e3 e4 e5 e6 e7 (by rw[Int.toNat_natCast];exact e8) e9 (by rw[Int.toNat_natCast];exact e10) e11;have HG0:Hid (getMB s=if endE s11 true≠0 then (zeroMg,endE s11 true) else if rightB ⟨ep,pl,os,gr,es,ls,p⟩=true then (⟨ep,pl,os,gr,es,ls,p⟩,0) else (zeroMg,1)):=hY (by unfold getMB;rw[hm]);have HRT:=hY fun c W (h:MfIs W c ⟨ep,pl,os,gr,es,ls,p⟩)=>manRight_any c ⟨ep,pl,os,gr,es,ls,p⟩ W h (fun x hx=>by have:=q6 x hx;omega) (fun x hx=>by have:=q11 x hx;omega) (by simp only;omega)
 have HN1:=hY n1;have HN2:=hY n2;have HN3:=hY n3;have HN5:=hY n5;have HN7:=hY n7;have HN9:=hY n9;have HN11:=hY n11;have HE8:=hY e8;have HE10:=hY e10;have HL8:=hY l8;have HL10:=hY l10;have ls7:s7.1.length≤1000000:=by omega
 have ls9:s9.1.length≤1000000:=by omega
 clear n1 n2 n3 n5 n7 n9 n11 e1 e2 e3 e4 e5 e6 e7 e8 e9 e10 e11 hm q6 q11 z1 z2 z3 z4 z5 z6 z7 z8 z9 z10 l8 l10;have HRD:=hY (rd_new2 w (.cells zeroM 47) s);have HZ0:=hY (heap_new_at w (.cells zeroM 47) _ rfl);unfold zeroM at HRD HZ0;go_enter Tryz.func40,Tryz.ntmps40
 go_wp2_with fail
 refine(octNew_any s _).mono ?_;rintro e w1 ⟨rfl,rfl⟩
 go_wp2_with fail
 refine(HN1.o _ HRD.o gw).mono ?_;rintro e W1 ⟨rfl,r1,g1,k1⟩;have R1:=hY r1;have G1:=hY g1;have Z1:=hY ((k1.2 w.heap.size (by simp[go_sem]) (by omega) (by omega)).trans (grew_heap gw HZ0.o));clear r1 g1 k1
 go_wp2_with fail
 refine(HN2.o _ R1.out G1.out).mono ?_;rintro e W2 ⟨rfl,r2,g2,k2⟩
 have M2:ManSt w w.heap.size W2.heap.size (w.heap.size+1+1) (w.heap.size+1) (W2.alloc (.cells #[.int .i64 ep,.int .i64 pl,.slice none 0 0,.slice none 0 0,.slice none 0 0,.slice none 0 0,.slice none 0 0] 47)) #[.int .i64 ep,.int .i64 pl,.slice none 0 0,.slice none 0 0,.slice none 0 0,.slice none 0 0,.slice none 0 0] (.slice none 0 0) (.slice none 0 0) (.slice none 0 0) (.slice none 0 0) [] [] [] [] [] s2:=by
  have hwl:=heap_lt Z1.out;exact⟨heap_new_at _ _ _ rfl,g2.below.size,OwnAt.nil _,OwnAt.nil _,trivial,OwnAt.nil _,OwnAt.nil _,r2.grew gw,g2.trans gw,grew_heap gw ((k2.2 w.heap.size hwl (by omega) (by omega)).trans Z1.out),by have:=k2.1;omega⟩
 have HM2:=hY M2;have T:=W2.heap.size;clear r2 g2 k2 M2
 go_wp2_with fail
 refine(HN3.o _ HM2.o.r HM2.o.w).mono ?_;rintro e W3 ⟨v3,rfl,o3,r3,g3,k3⟩;obtain⟨a3,b3,rfl⟩:=(OwnAt.rows o3 encN_len).len;have M3:=(HM2.o.keep2 k3 r3 g3).setO (OwnAt.low o3 (by rw[World.size_alloc];have:=HM2.o.w.below.size;rw[World.size_alloc] at this;exact this));have hwl:w.heap.size≤W2.heap.size:=HM2.o.b;clear o3 r3 g3 k3 HM2;have x0:=cell_of (o:=0) M3.t;have xf0:=frozen_of (o:=0) M3.t;have x1:=cell_of (o:=1) M3.t;have xf1:=frozen_of (o:=1) M3.t;have x2:=cell_of (o:=2) M3.t;have xf2:=frozen_of (o:=2) M3.t;have x3:=cell_of (o:=3) M3.t;have xf3:=frozen_of (o:=3) M3.t;have x4:=cell_of (o:=4) M3.t;have xf4:=frozen_of (o:=4) M3.t;have x5:=cell_of (o:=5) M3.t;have xf5:=frozen_of (o:=5) M3.t;have x6:=cell_of (o:=6) M3.t;have xf6:=frozen_of (o:=6) M3.t;simp[zeroM] at x0 x1 x2 x3 x4 x5 x6;have xp:=Pre.mk (heap_lt M3.t);have P3:=hY (M3.put (i:=2) (v:=.slice a3 os.length b3));clear M3
 go_wp2_with fail
 obtain⟨W4,hW4⟩:∃W4,W3.setCell ⟨W2.heap.size,2,none⟩ (.slice a3 os.length b3)=W4:=⟨_,rfl⟩;rw[hW4] at P3 ⊢;clear hW4;clear x0 xf0 x1 xf1 x2 xf2 x3 xf3 x4 xf4 x5 xf5 x6 xf6 xp;refine(HN5.o _ P3.out.r P3.out.w).mono ?_;rintro e W5 ⟨v5,lc,rfl,o5,i5,r5,g5,k5⟩;obtain⟨a5,b5,rfl⟩:=(OwnAt.rows o5 encNd_len).len;have M5:=(P3.out.keep2 k5 r5 g5).setG (OwnAt.low o5 P3.out.w.below.size) (i5.lower P3.out.w.below.size);simp at M5;clear o5 r5 g5 k5 i5 P3;have x0:=cell_of (o:=0) M5.t;have xf0:=frozen_of (o:=0) M5.t;have x1:=cell_of (o:=1) M5.t;have xf1:=frozen_of (o:=1) M5.t;have x2:=cell_of (o:=2) M5.t;have xf2:=frozen_of (o:=2) M5.t;have x3:=cell_of (o:=3) M5.t;have xf3:=frozen_of (o:=3) M5.t;have x4:=cell_of (o:=4) M5.t;have xf4:=frozen_of (o:=4) M5.t;have x5:=cell_of (o:=5) M5.t;have xf5:=frozen_of (o:=5) M5.t;have x6:=cell_of (o:=6) M5.t;have xf6:=frozen_of (o:=6) M5.t;simp[zeroM] at x0 x1 x2 x3 x4 x5 x6;have xp:=Pre.mk (heap_lt M5.t);have P5:=hY (M5.put (i:=3) (v:=.slice a5 lc.length b5));clear M5
 go_wp2_with fail
 obtain⟨W6,hW6⟩:∃W6,W5.setCell ⟨W2.heap.size,3,none⟩ (.slice a5 lc.length b5)=W6:=⟨_,rfl⟩;rw[hW6] at P5 ⊢;clear hW6;clear x0 xf0 x1 xf1 x2 xf2 x3 xf3 x4 xf4 x5 xf5 x6 xf6 xp;refine(HN7.o _ P5.out.r P5.out.w).mono ?_;rintro e W7 ⟨rfl,r7,g7,k7⟩;have M7:=P5.out.keep2 k7 r7 g7;simp at M7;have HM7:=hY M7;clear r7 g7 k7 P5 M7;go_wp2;clear hwl
 go_loopg [26] N (fun gg s26 wr=>∃(k:Nat) (ve:Value),k≤N∧N-k≤gg∧s26 = .int .i64 k∧Hid (ManSt w w.heap.size W2.heap.size (w.heap.size+1+1) (w.heap.size+1) wr #[.int .i64 ep,.int .i64 pl,.slice a3 os.length b3,.slice a5 lc.length b5,ve,.slice none 0 0,.slice none 0 0] (.slice a3 os.length b3) (.slice a5 lc.length b5) ve (.slice none 0 0) os lc gr (Gr.manyS Gr.enS k s7).1 [] (Gr.manyS Gr.enS k s7).2))
 case atStart=>exact⟨0,_,by omega,by omega,rfl,HM7⟩
 case round =>
  obtain⟨k,ve,hk,hgg,rfl,HM⟩:=hrel;by_cases hlt:k<N
  ·skip
   obtain⟨lk1,lk2⟩:=manyS_len enS_len k s7;have hsc:=manyS_succ Gr.enS k s7;generalize Gr.manyS Gr.enS k s7=LS at *;obtain⟨xs,t0⟩:=LS;simp only at lk1 lk2 hsc HM;obtain⟨ak,ck,rfl⟩:=(OwnAt.rows HM.o.e encEn_len).len;have m1:=fun W h g=>rdNum_any w (w.heap.size+1+1) (w.heap.size+1) t0 0 7 W h g (by omega)
   have y1:=numS_len 0 7 t0;obtain⟨nd,t1,f1⟩:∃x t,Gr.numS 0 7 t0=(x,t):=⟨_,_,rfl⟩;rw[f1] at m1 y1;simp only at y1;have m2:=fun W h g=>rdNum_any w (w.heap.size+1+1) (w.heap.size+1) t1 0 63 W h g (by omega)
   have y2:=numS_len 0 63 t1;obtain⟨ky,t2,f2⟩:∃x t,Gr.numS 0 63 t1=(x,t):=⟨_,_,rfl⟩;rw[f2] at m2 y2;simp only at y2;have m4:=fun W h g=>rdVal_any w (w.heap.size+1+1) (w.heap.size+1) t2 W h g (by omega)
   have y4:=valS_len t2;obtain⟨⟨p0,q0⟩,t3,f4⟩:∃x t,Gr.valS t2=(x,t):=⟨_,_,rfl⟩;rw[f4] at m4 y4;simp only at y4 m4;have m5:=fun W h g=>rdVal_any w (w.heap.size+1+1) (w.heap.size+1) t3 W h g (by omega)
   have y5:=valS_len t3;obtain⟨⟨p1,q1⟩,t4,f5⟩:∃x t,Gr.valS t3=(x,t):=⟨_,_,rfl⟩;rw[f5] at m5 y5;simp only at y5 m5;rw[enS_eq f1 f2 f4 f5] at hsc;simp only at hsc;have HM1:=hY m1;have HM2:=hY m2;have HM4:=hY m4;have HM5:=hY m5;have HSC:=hY hsc;have HLK:=hY lk1;clear m1 f1 y1 m2 f2 y2 m4 f4 y4 m5 f5 y5 hsc lk1 lk2
   go_wp2_with fail
   refine(HM1.o _ HM.o.r HM.o.w).mono ?_;rintro e V1 ⟨rfl,r1,g1,k1⟩;have Q1:=hY (HM.o.keep2 k1 r1 g1);clear r1 g1 k1
   go_wp2_with fail
   refine(HM2.o _ Q1.out.r Q1.out.w).mono ?_;rintro e V2 ⟨rfl,r2,g2,k2⟩;have Q2:=hY (Q1.out.keep2 k2 r2 g2);clear r2 g2 k2;have hTA:V2.heap.size≠(w.heap.size+1+1):=by have:=heap_lt Q2.out.r.2.1;omega
   have hTB:V2.heap.size≠(w.heap.size+1):=by have:=heap_lt Q2.out.r.2.2.2;omega
   have hTw:w.heap.size≤V2.heap.size:=Q2.out.w.below.size;obtain⟨hve,hvl⟩:=Q2.out.neE (Nat.le_refl _);have HVE:=hY hve;have HVL:=hY hvl;clear hve hvl;have H5:=hY (heap_new_at V2 (.cells #[.int .i64 nd,.int .i64 ky,.int .i64 0,.int .i64 0,.int .i64 0,.int .i64 0] 115) _ rfl)
   go_wp2_with fail
   have Q9:=hY (Q2.out.grew (gw:Grew V2 (V2.alloc (.cells #[.int .i64 nd,.int .i64 ky,.int .i64 0,.int .i64 0,.int .i64 0,.int .i64 0] 115))));refine(HM4.o _ Q9.out.r Q9.out.w).mono ?_;rintro e U0 ⟨rfl,r,g,kk⟩;have QA0:=hY (Q9.out.keep2 kk r g);have h5:=(kk.2 V2.heap.size (heap_lt H5.o) hTA hTB).trans H5.o;clear r g kk;have c0:=cell_of (o:=0) h5;have cf0:=frozen_of (o:=0) h5;have c1:=cell_of (o:=1) h5;have cf1:=frozen_of (o:=1) h5;have c2:=cell_of (o:=2) h5;have cf2:=frozen_of (o:=2) h5;have c3:=cell_of (o:=3) h5;have cf3:=frozen_of (o:=3) h5;have c4:=cell_of (o:=4) h5;have cf4:=frozen_of (o:=4) h5;have c5:=cell_of (o:=5) h5;have cf5:=frozen_of (o:=5) h5;simp[zeroM] at c0 c1 c2 c3 c4 c5;have cp:=Pre.mk (heap_lt h5)
   go_wp2_with fail
   obtain⟨S0,hS0⟩:∃S,(U0.setCell ⟨V2.heap.size,2,none⟩ (.int .i64 p0)).setCell ⟨V2.heap.size,3,none⟩ (.int .i64 q0)=S:=⟨_,rfl⟩;have h6:=set_self (o:=3) (v:=.int .i64 q0) (set_self (o:=2) (v:=.int .i64 p0) h5);simp at h6;have hg6:=(QA0.out.w.set hTw (.int .i64 p0) (o:=2)).set hTw (.int .i64 q0) (o:=3);have QB0:=hY (QA0.out.new butTwo h5 (.inl rfl) HVE.o HVL.o hg6);rw[hS0] at h6 QB0
   first|rw[hS0]|skip
   have HC0:=hY h6;clear hg6 h6 h5 hS0;clear c0 cf0 c1 cf1 c2 cf2 c3 cf3 c4 cf4 c5 cf5 cp;refine(HM5.o _ QB0.out.r QB0.out.w).mono ?_;rintro e U1 ⟨rfl,r,g,kk⟩;have QA1:=hY (QB0.out.keep2 kk r g);have h5:=(kk.2 V2.heap.size (heap_lt HC0.o) hTA hTB).trans HC0.o;clear r g kk;have c0:=cell_of (o:=0) h5;have cf0:=frozen_of (o:=0) h5;have c1:=cell_of (o:=1) h5;have cf1:=frozen_of (o:=1) h5;have c2:=cell_of (o:=2) h5;have cf2:=frozen_of (o:=2) h5;have c3:=cell_of (o:=3) h5;have cf3:=frozen_of (o:=3) h5;have c4:=cell_of (o:=4) h5;have cf4:=frozen_of (o:=4) h5;have c5:=cell_of (o:=5) h5;have cf5:=frozen_of (o:=5) h5;simp[zeroM] at c0 c1 c2 c3 c4 c5;have cp:=Pre.mk (heap_lt h5)
   go_upto_region 10 with fail
   obtain⟨S1,hS1⟩:∃S,(U1.setCell ⟨V2.heap.size,4,none⟩ (.int .i64 p1)).setCell ⟨V2.heap.size,5,none⟩ (.int .i64 q1)=S:=⟨_,rfl⟩;have h6:=set_self (o:=5) (v:=.int .i64 q1) (set_self (o:=4) (v:=.int .i64 p1) h5);simp at h6;have hg6:=(QA1.out.w.set hTw (.int .i64 p1) (o:=4)).set hTw (.int .i64 q1) (o:=5);have QB1:=hY (QA1.out.new butTwo h5 (.inl rfl) HVE.o HVL.o hg6);rw[hS1] at h6 QB1
   first|rw[hS1]|skip
   have HC1:=hY h6;clear hg6 h6 h5 hS1;clear c0 cf0 c1 cf1 c2 cf2 c3 cf3 c4 cf4 c5 cf5 cp;have c0:=cell_of (o:=0) HC1.o;have cf0:=frozen_of (o:=0) HC1.o;have c1:=cell_of (o:=1) HC1.o;have cf1:=frozen_of (o:=1) HC1.o;have c2:=cell_of (o:=2) HC1.o;have cf2:=frozen_of (o:=2) HC1.o;have c3:=cell_of (o:=3) HC1.o;have cf3:=frozen_of (o:=3) HC1.o;have c4:=cell_of (o:=4) HC1.o;have cf4:=frozen_of (o:=4) HC1.o;have c5:=cell_of (o:=5) HC1.o;have cf5:=frozen_of (o:=5) HC1.o;simp[zeroM] at c0 c1 c2 c3 c4 c5;have cp:=Pre.mk (heap_lt HC1.o);have x0:=cell_of (o:=0) QB1.out.t;have xf0:=frozen_of (o:=0) QB1.out.t;have x1:=cell_of (o:=1) QB1.out.t;have xf1:=frozen_of (o:=1) QB1.out.t;have x2:=cell_of (o:=2) QB1.out.t;have xf2:=frozen_of (o:=2) QB1.out.t;have x3:=cell_of (o:=3) QB1.out.t;have xf3:=frozen_of (o:=3) QB1.out.t;have x4:=cell_of (o:=4) QB1.out.t;have xf4:=frozen_of (o:=4) QB1.out.t;have x5:=cell_of (o:=5) QB1.out.t;have xf5:=frozen_of (o:=5) QB1.out.t;have x6:=cell_of (o:=6) QB1.out.t;have xf6:=frozen_of (o:=6) QB1.out.t;simp[zeroM] at x0 x1 x2 x3 x4 x5 x6;have xp:=Pre.mk (heap_lt QB1.out.t)
   skip
   go_wp2_with (at_builtin;go_loud (refine wpList_ownK (w0:=w) rfl (.tmp 42) (.tmp 44) 44 _ _ _ _ [⟨nd,ky,(p0,q0),(p1,q1)⟩] rfl Tryz.underlying44 infoEn rfl (by decide) encEn_len encEn_one rfl (OwnAt.grew QB1.out.e gw) (QB1.out.w.trans gw) rfl (en_at _ _ _ _ rfl (by simp[go_sem])) (by simp[HLK.o];omega) (by decide) (by simp) ?_;intro v5 W5 hA;obtain⟨a9,b9,rfl⟩:=(OwnAt.rows hA.2.1 encEn_len).len;(have QC:=hY ((QB1.out.grew gw).appE hA));(have d4:=cell_of (o:=4) QC.out.t);(have e4:=frozen_of (o:=4) QC.out.t);(have pe4:=Pre.mk (heap_lt QC.out.t));simp at d4;clear hA))
   have QD:=hY (QC.out.put (i:=4) (v:=.slice a9 (xs++[(⟨nd,ky,(p0,q0),(p1,q1)⟩:Tab.En)]).length b9));simp at QD
   go_roundg (N-(k+1))
   case measure=>omega
   case rel=>exact⟨k+1,.slice a9 (xs.length+1) b9,by omega,by omega,by go_num,hY (by rw[HSC.o];have:=QD.out;simpa using this)⟩
  ·obtain rfl:k=N:=by omega
   rw[HE8.o] at HM;simp only at HM;obtain⟨a8,b8,rfl⟩:=(OwnAt.rows HM.o.e encEn_len).len
   go_wp2_with fail
   refine(HN9.o _ HM.o.r HM.o.w).mono ?_;rintro e W9 ⟨rfl,r9,g9,k9⟩;have HM9:=hY (HM.o.keep2 k9 r9 g9);clear r9 g9 k9 HM;go_wp2
   go_loopg [50] N2 (fun gg s50 wq=>∃(k:Nat) (vl:Value),k≤N2∧N2-k≤gg∧s50 = .int .i64 k∧Hid (ManSt w w.heap.size W2.heap.size (w.heap.size+1+1) (w.heap.size+1) wq #[.int .i64 ep,.int .i64 pl,.slice a3 os.length b3,.slice a5 lc.length b5,.slice a8 es.length b8,vl,.slice none 0 0] (.slice a3 os.length b3) (.slice a5 lc.length b5) (.slice a8 es.length b8) vl os lc gr es (Gr.manyS Gr.lnS k s9).1 (Gr.manyS Gr.lnS k s9).2))
   case atStart=>exact⟨0,_,by omega,by omega,rfl,HM9⟩
   case round =>
    obtain⟨k,vl,hk,hgg,rfl,HM⟩:=hrel;by_cases hlt:k<N2
    ·skip
     obtain⟨lk1,lk2⟩:=manyS_len lnS_len k s9;have hsc:=manyS_succ Gr.lnS k s9;generalize Gr.manyS Gr.lnS k s9=LS at *;obtain⟨xs,t0⟩:=LS;simp only at lk1 lk2 hsc HM;obtain⟨ak,ck,rfl⟩:=(OwnAt.rows HM.o.l encLn_len).len;have m1:=fun W h g=>rdNum_any w (w.heap.size+1+1) (w.heap.size+1) t0 0 7 W h g (by omega)
     have y1:=numS_len 0 7 t0;obtain⟨si,t1,f1⟩:∃x t,Gr.numS 0 7 t0=(x,t):=⟨_,_,rfl⟩;rw[f1] at m1 y1;simp only at y1;have m2:=fun W h g=>rdNum_any w (w.heap.size+1+1) (w.heap.size+1) t1 0 7 W h g (by omega)
     have y2:=numS_len 0 7 t1;obtain⟨fr,t2,f2⟩:∃x t,Gr.numS 0 7 t1=(x,t):=⟨_,_,rfl⟩;rw[f2] at m2 y2;simp only at y2;have m3:=fun W h g=>rdNum_any w (w.heap.size+1+1) (w.heap.size+1) t2 0 63 W h g (by omega)
     have y3:=numS_len 0 63 t2;obtain⟨ky,t3,f3⟩:∃x t,Gr.numS 0 63 t2=(x,t):=⟨_,_,rfl⟩;rw[f3] at m3 y3;simp only at y3;have m4:=fun W h g=>rdVal_any w (w.heap.size+1+1) (w.heap.size+1) t3 W h g (by omega)
     have y4:=valS_len t3;obtain⟨⟨p0,q0⟩,t4,f4⟩:∃x t,Gr.valS t3=(x,t):=⟨_,_,rfl⟩;rw[f4] at m4 y4;simp only at y4 m4;rw[lnS_eq f1 f2 f3 f4] at hsc;simp only at hsc;have HM1:=hY m1;have HM2:=hY m2;have HM3:=hY m3;have HM4:=hY m4;have HSC:=hY hsc;have HLK:=hY lk1;clear m1 f1 y1 m2 f2 y2 m3 f3 y3 m4 f4 y4 hsc lk1 lk2
     go_wp2_with fail
     refine(HM1.o _ HM.o.r HM.o.w).mono ?_;rintro e V1 ⟨rfl,r1,g1,k1⟩;have Q1:=hY (HM.o.keep2 k1 r1 g1);clear r1 g1 k1
     go_wp2_with fail
     refine(HM2.o _ Q1.out.r Q1.out.w).mono ?_;rintro e V2 ⟨rfl,r2,g2,k2⟩;have Q2:=hY (Q1.out.keep2 k2 r2 g2);clear r2 g2 k2
     go_wp2_with fail
     refine(HM3.o _ Q2.out.r Q2.out.w).mono ?_;rintro e V3 ⟨rfl,r3,g3,k3⟩;have Q3:=hY (Q2.out.keep2 k3 r3 g3);clear r3 g3 k3;have hTA:V3.heap.size≠(w.heap.size+1+1):=by have:=heap_lt Q3.out.r.2.1;omega
     have hTB:V3.heap.size≠(w.heap.size+1):=by have:=heap_lt Q3.out.r.2.2.2;omega
     have hTw:w.heap.size≤V3.heap.size:=Q3.out.w.below.size;obtain⟨hve,hvl⟩:=Q3.out.neE (Nat.le_refl _);have HVE:=hY hve;have HVL:=hY hvl;clear hve hvl;have H5:=hY (heap_new_at V3 (.cells #[.int .i64 si,.int .i64 fr,.int .i64 ky,.int .i64 0,.int .i64 0] 122) _ rfl)
     go_wp2_with fail
     have Q9:=hY (Q3.out.grew (gw:Grew V3 (V3.alloc (.cells #[.int .i64 si,.int .i64 fr,.int .i64 ky,.int .i64 0,.int .i64 0] 122))));refine(HM4.o _ Q9.out.r Q9.out.w).mono ?_;rintro e U0 ⟨rfl,r,g,kk⟩;have QA0:=hY (Q9.out.keep2 kk r g);have h5:=(kk.2 V3.heap.size (heap_lt H5.o) hTA hTB).trans H5.o;clear r g kk;have c0:=cell_of (o:=0) h5;have cf0:=frozen_of (o:=0) h5;have c1:=cell_of (o:=1) h5;have cf1:=frozen_of (o:=1) h5;have c2:=cell_of (o:=2) h5;have cf2:=frozen_of (o:=2) h5;have c3:=cell_of (o:=3) h5;have cf3:=frozen_of (o:=3) h5;have c4:=cell_of (o:=4) h5;have cf4:=frozen_of (o:=4) h5;simp[zeroM] at c0 c1 c2 c3 c4;have cp:=Pre.mk (heap_lt h5)
     go_upto_region 16 with fail
     obtain⟨S0,hS0⟩:∃S,(U0.setCell ⟨V3.heap.size,3,none⟩ (.int .i64 p0)).setCell ⟨V3.heap.size,4,none⟩ (.int .i64 q0)=S:=⟨_,rfl⟩;have h6:=set_self (o:=4) (v:=.int .i64 q0) (set_self (o:=3) (v:=.int .i64 p0) h5);simp at h6;have hg6:=(QA0.out.w.set hTw (.int .i64 p0) (o:=3)).set hTw (.int .i64 q0) (o:=4);have QB0:=hY (QA0.out.new butTwo h5 (.inr rfl) HVE.o HVL.o hg6);rw[hS0] at h6 QB0
     first|rw[hS0]|skip
     have HC0:=hY h6;clear hg6 h6 h5 hS0;clear c0 cf0 c1 cf1 c2 cf2 c3 cf3 c4 cf4 cp;have c0:=cell_of (o:=0) HC0.o;have cf0:=frozen_of (o:=0) HC0.o;have c1:=cell_of (o:=1) HC0.o;have cf1:=frozen_of (o:=1) HC0.o;have c2:=cell_of (o:=2) HC0.o;have cf2:=frozen_of (o:=2) HC0.o;have c3:=cell_of (o:=3) HC0.o;have cf3:=frozen_of (o:=3) HC0.o;have c4:=cell_of (o:=4) HC0.o;have cf4:=frozen_of (o:=4) HC0.o;simp[zeroM] at c0 c1 c2 c3 c4;have cp:=Pre.mk (heap_lt HC0.o);have x0:=cell_of (o:=0) QB0.out.t;have xf0:=frozen_of (o:=0) QB0.out.t;have x1:=cell_of (o:=1) QB0.out.t;have xf1:=frozen_of (o:=1) QB0.out.t;have x2:=cell_of (o:=2) QB0.out.t;have xf2:=frozen_of (o:=2) QB0.out.t;have x3:=cell_of (o:=3) QB0.out.t;have xf3:=frozen_of (o:=3) QB0.out.t;have x4:=cell_of (o:=4) QB0.out.t;have xf4:=frozen_of (o:=4) QB0.out.t;have x5:=cell_of (o:=5) QB0.out.t;have xf5:=frozen_of (o:=5) QB0.out.t;have x6:=cell_of (o:=6) QB0.out.t;have xf6:=frozen_of (o:=6) QB0.out.t;simp[zeroM] at x0 x1 x2 x3 x4 x5 x6;have xp:=Pre.mk (heap_lt QB0.out.t)
     skip
     go_wp2_with (at_builtin;go_loud (refine wpList_ownK (w0:=w) rfl (.tmp 63) (.tmp 65) 45 _ _ _ _ [⟨si,fr,ky,(p0,q0)⟩] rfl Tryz.underlying45 infoLn rfl (by decide) encLn_len encLn_one rfl (OwnAt.grew QB0.out.l gw) (QB0.out.w.trans gw) rfl (ln_at _ _ _ _ rfl (by simp[go_sem])) (by simp[HLK.o];omega) (by decide) (by simp) ?_;intro v5 W5 hA;obtain⟨a9,b9,rfl⟩:=(OwnAt.rows hA.2.1 encLn_len).len;(have QC:=hY ((QB0.out.grew gw).appL hA));(have d4:=cell_of (o:=5) QC.out.t);(have e4:=frozen_of (o:=5) QC.out.t);(have pe4:=Pre.mk (heap_lt QC.out.t));simp at d4;clear hA))
     have QD:=hY (QC.out.put (i:=5) (v:=.slice a9 (xs++[(⟨si,fr,ky,(p0,q0)⟩:Gr.Ln)]).length b9));simp at QD
     go_roundg (N2-(k+1))
     case measure=>omega
     case rel=>exact⟨k+1,.slice a9 (xs.length+1) b9,by omega,by omega,by go_num,hY (by rw[HSC.o];have:=QD.out;simpa using this)⟩
    ·obtain rfl:k=N2:=by omega
     rw[HE10.o] at HM;simp only at HM;obtain⟨a10,b10,rfl⟩:=(OwnAt.rows HM.o.l encLn_len).len
     go_wp2_with fail
     refine(HN11.o _ HM.o.r HM.o.w).mono ?_;rintro e W11 ⟨v11,lp,s12,rfl,o11,i11,r11,es1,es2,g11,k11⟩;have HWW:=HM.o.w.below.size;have HO11:=hY (OwnAt.low o11 HWW);have HI11:=hY (i11.lower HWW);have HM11:=hY (HM.o.keep2 k11 r11 g11);obtain⟨a11,b11,rfl⟩:=(OwnAt.rows o11 encSt_len).len;have HLP:=hY (Rel.len i11);have HES:=hY (endE_same es1 es2);clear o11 i11 r11 g11 k11 HM HWW es1 es2;have x0:=cell_of (o:=0) HM11.o.t;have xf0:=frozen_of (o:=0) HM11.o.t;have x1:=cell_of (o:=1) HM11.o.t;have xf1:=frozen_of (o:=1) HM11.o.t;have x2:=cell_of (o:=2) HM11.o.t;have xf2:=frozen_of (o:=2) HM11.o.t;have x3:=cell_of (o:=3) HM11.o.t;have xf3:=frozen_of (o:=3) HM11.o.t;have x4:=cell_of (o:=4) HM11.o.t;have xf4:=frozen_of (o:=4) HM11.o.t;have x5:=cell_of (o:=5) HM11.o.t;have xf5:=frozen_of (o:=5) HM11.o.t;have x6:=cell_of (o:=6) HM11.o.t;have xf6:=frozen_of (o:=6) HM11.o.t;simp[zeroM] at x0 x1 x2 x3 x4 x5 x6;have xp:=Pre.mk (heap_lt HM11.o.t)
     go_wp2_with fail
     have P11:=hY (HM11.o.put (i:=6) (v:=.slice a11 lp.length b11));have hbut:But W2.heap.size W11 (W11.setCell ⟨W2.heap.size,6,none⟩ (.slice a11 lp.length b11)):=fun q hq=>set_other fun e=>hq e.symm
     have HS12:=hY fun u (hu:47≠u)=>Same.but hbut HM11.o.t hu
     obtain⟨W12,hW12⟩:∃W12,W11.setCell ⟨W2.heap.size,6,none⟩ (.slice a11 lp.length b11)=W12:=⟨_,rfl⟩;rw[hW12] at P11 HS12 ⊢;have HO12:Hid (StepsOwn w.heap.size W12 (.slice a11 lp.length b11) lp):=hY (OwnAt.sameT HO11.o (HS12.o _ (by decide)));have HI12:=hY (HI11.o.sameT (HS12.o _ (by decide)) (HS12.o _ (by decide)));simp at P11;clear x0 xf0 x1 xf1 x2 xf2 x3 xf3 x4 xf4 x5 xf5 x6 xf6 xp;clear hbut hW12 HS12 HO11 HI11 HM11;have HEND:=hY (rdEnd_any w.heap.size (w.heap.size+1+1) (w.heap.size+1) s12 true W12 P11.out.r);by_cases he:endE s11 true=0
     case neg =>
      have hne:(endE s11 true != 0)=true:=by rw[bne_iff_ne];exact he
      have HGE:=hY (HG0.o.trans (if_pos he));generalize endE s11 true=en at *;clear he HG0;have x0:=cell_of (o:=0) P11.out.z;have xf0:=frozen_of (o:=0) P11.out.z;have x1:=cell_of (o:=1) P11.out.z;have xf1:=frozen_of (o:=1) P11.out.z;have x2:=cell_of (o:=2) P11.out.z;have xf2:=frozen_of (o:=2) P11.out.z;have x3:=cell_of (o:=3) P11.out.z;have xf3:=frozen_of (o:=3) P11.out.z;have x4:=cell_of (o:=4) P11.out.z;have xf4:=frozen_of (o:=4) P11.out.z;have x5:=cell_of (o:=5) P11.out.z;have xf5:=frozen_of (o:=5) P11.out.z;have x6:=cell_of (o:=6) P11.out.z;have xf6:=frozen_of (o:=6) P11.out.z;simp[zeroM] at x0 x1 x2 x3 x4 x5 x6;have xp:=Pre.mk (heap_lt P11.out.z);refine HEND.o.mono ?_;rintro e w4 ⟨rfl,hw4⟩;obtain rfl:=hw4.symm;rw[HES.o];go_wp2;clear x0 xf0 x1 xf1 x2 xf2 x3 xf3 x4 xf4 x5 xf5 x6 xf6 xp;have PZ:=hY (P11.out.z);have GZ:=hY (P11.out.w);have h7:=man_set7 PZ.out (.int .i64 0) (.int .i64 0) (.slice none 0 0) (.slice none 0 0) (.slice none 0 0) (.slice none 0 0) (.slice none 0 0);have g7:=Grew.set7 GZ.out (Nat.le_refl w.heap.size) (a:=.int .i64 0) (b:=.int .i64 0) (c:=.slice none 0 0) (d:=.slice none 0 0) (e:=.slice none 0 0) (f:=.slice none 0 0) (g:=.slice none 0 0);generalize ((((((W12.setCell ⟨w.heap.size,0,none⟩ (.int .i64 0)).setCell ⟨w.heap.size,1,none⟩ (.int .i64 0)).setCell ⟨w.heap.size,2,none⟩ (.slice none 0 0)).setCell ⟨w.heap.size,3,none⟩ (.slice none 0 0)).setCell ⟨w.heap.size,4,none⟩ (.slice none 0 0)).setCell ⟨w.heap.size,5,none⟩ (.slice none 0 0)).setCell ⟨w.heap.size,6,none⟩ (.slice none 0 0)=W14 at *;have x0:=cell_of (o:=0) h7;have xf0:=frozen_of (o:=0) h7;have x1:=cell_of (o:=1) h7;have xf1:=frozen_of (o:=1) h7;have x2:=cell_of (o:=2) h7;have xf2:=frozen_of (o:=2) h7;have x3:=cell_of (o:=3) h7;have xf3:=frozen_of (o:=3) h7;have x4:=cell_of (o:=4) h7;have xf4:=frozen_of (o:=4) h7;have x5:=cell_of (o:=5) h7;have xf5:=frozen_of (o:=5) h7;have x6:=cell_of (o:=6) h7;have xf6:=frozen_of (o:=6) h7;simp[zeroM] at x0 x1 x2 x3 x4 x5 x6;have xp:=Pre.mk (heap_lt h7);refine bodyPost_ret (v:=.tuple #[.agg #[.int .i64 0,.int .i64 0,.slice none 0 0,.slice none 0 0,.slice none 0 0,.slice none 0 0,.slice none 0 0],.int .i64 en]) (by simp[results,Tryz.results40,go_sem,x0,x1,x2,x3,x4,x5,x6]) rfl ?_;rw[HGE.o];exact⟨⟨0,0,none,0,0,none,0,0,none,0,0,none,0,0,none,0,0⟩,rfl,mf_zero _ _,g7⟩
     have HGE0:=hY (HG0.o.trans (if_neg (by simpa using he)));rw[he] at HES;clear he HG0;refine HEND.o.mono ?_;rintro e w4 ⟨rfl,hw4⟩;obtain rfl:=hw4.symm;rw[HES.o];have x0:=cell_of (o:=0) P11.out.t;have xf0:=frozen_of (o:=0) P11.out.t;have x1:=cell_of (o:=1) P11.out.t;have xf1:=frozen_of (o:=1) P11.out.t;have x2:=cell_of (o:=2) P11.out.t;have xf2:=frozen_of (o:=2) P11.out.t;have x3:=cell_of (o:=3) P11.out.t;have xf3:=frozen_of (o:=3) P11.out.t;have x4:=cell_of (o:=4) P11.out.t;have xf4:=frozen_of (o:=4) P11.out.t;have x5:=cell_of (o:=5) P11.out.t;have xf5:=frozen_of (o:=5) P11.out.t;have x6:=cell_of (o:=6) P11.out.t;have xf6:=frozen_of (o:=6) P11.out.t;simp[zeroM] at x0 x1 x2 x3 x4 x5 x6;have xp:=Pre.mk (heap_lt P11.out.t);have HMF:=hY (mf_done (ep:=ep) (pl:=pl) P11.out HO12.o HI12.o fun u _=>Same.refl u W12).is;have HRB:=hY (HRT.o _ _ HMF.o);cases hrb:rightB ⟨ep,pl,os,gr,es,ls,p⟩
     ·have HGE:=hY (HGE0.o.trans (if_neg (by rw[hrb];simp)));rw[hrb] at HRB;clear hrb HGE0
      go_wp2_with (go_at_call 90;refine HRB.o.mono ?_;rintro e w5 ⟨rfl,R5,n5,rfl⟩;(have hz5:=grew_heap (gw:Grew W12 (W12.more R5 n5)) P11.out.z);(have HZ5:=hY hz5);(have y0:=cell_of (o:=0) hz5);(have yf0:=frozen_of (o:=0) hz5);(have y1:=cell_of (o:=1) hz5);(have yf1:=frozen_of (o:=1) hz5);(have y2:=cell_of (o:=2) hz5);(have yf2:=frozen_of (o:=2) hz5);(have y3:=cell_of (o:=3) hz5);(have yf3:=frozen_of (o:=3) hz5);(have y4:=cell_of (o:=4) hz5);(have yf4:=frozen_of (o:=4) hz5);(have y5:=cell_of (o:=5) hz5);(have yf5:=frozen_of (o:=5) hz5);(have y6:=cell_of (o:=6) hz5);(have yf6:=frozen_of (o:=6) hz5);simp[zeroM] at y0 y1 y2 y3 y4 y5 y6;(have yp:=Pre.mk (heap_lt hz5));clear hz5)
      clear x0 xf0 x1 xf1 x2 xf2 x3 xf3 x4 xf4 x5 xf5 x6 xf6 xp;clear y0 yf0 y1 yf1 y2 yf2 y3 yf3 y4 yf4 y5 yf5 y6 yf6 yp;have PZ:=hY (HZ5.o);have GZ:=hY (P11.out.w.trans (gw:Grew W12 (W12.more R5 n5)));have h7:=man_set7 PZ.out (.int .i64 0) (.int .i64 0) (.slice none 0 0) (.slice none 0 0) (.slice none 0 0) (.slice none 0 0) (.slice none 0 0);have g7:=Grew.set7 GZ.out (Nat.le_refl w.heap.size) (a:=.int .i64 0) (b:=.int .i64 0) (c:=.slice none 0 0) (d:=.slice none 0 0) (e:=.slice none 0 0) (f:=.slice none 0 0) (g:=.slice none 0 0);generalize (((((((W12.more R5 n5).setCell ⟨w.heap.size,0,none⟩ (.int .i64 0)).setCell ⟨w.heap.size,1,none⟩ (.int .i64 0)).setCell ⟨w.heap.size,2,none⟩ (.slice none 0 0)).setCell ⟨w.heap.size,3,none⟩ (.slice none 0 0)).setCell ⟨w.heap.size,4,none⟩ (.slice none 0 0)).setCell ⟨w.heap.size,5,none⟩ (.slice none 0 0)).setCell ⟨w.heap.size,6,none⟩ (.slice none 0 0)=W14 at *;have x0:=cell_of (o:=0) h7;have xf0:=frozen_of (o:=0) h7;have x1:=cell_of (o:=1) h7;have xf1:=frozen_of (o:=1) h7;have x2:=cell_of (o:=2) h7;have xf2:=frozen_of (o:=2) h7;have x3:=cell_of (o:=3) h7;have xf3:=frozen_of (o:=3) h7;have x4:=cell_of (o:=4) h7;have xf4:=frozen_of (o:=4) h7;have x5:=cell_of (o:=5) h7;have xf5:=frozen_of (o:=5) h7;have x6:=cell_of (o:=6) h7;have xf6:=frozen_of (o:=6) h7;simp[zeroM] at x0 x1 x2 x3 x4 x5 x6;have xp:=Pre.mk (heap_lt h7);refine bodyPost_ret (v:=.tuple #[.agg #[.int .i64 0,.int .i64 0,.slice none 0 0,.slice none 0 0,.slice none 0 0,.slice none 0 0,.slice none 0 0],.int .i64 1]) (by simp[results,Tryz.results40,go_sem,x0,x1,x2,x3,x4,x5,x6]) rfl ?_;rw[HGE.o];exact⟨⟨0,0,none,0,0,none,0,0,none,0,0,none,0,0,none,0,0⟩,rfl,mf_zero _ _,g7⟩
     ·have HGE:=hY (HGE0.o.trans (if_pos (by rw[hrb])));rw[hrb] at HRB;clear hrb HGE0
      go_wp2_with (go_at_call 90;refine HRB.o.mono ?_;rintro e w5 ⟨rfl,R5,n5,rfl⟩;(have hz5:=grew_heap (gw:Grew W12 (W12.more R5 n5)) P11.out.z);(have HZ5:=hY hz5);(have y0:=cell_of (o:=0) hz5);(have yf0:=frozen_of (o:=0) hz5);(have y1:=cell_of (o:=1) hz5);(have yf1:=frozen_of (o:=1) hz5);(have y2:=cell_of (o:=2) hz5);(have yf2:=frozen_of (o:=2) hz5);(have y3:=cell_of (o:=3) hz5);(have yf3:=frozen_of (o:=3) hz5);(have y4:=cell_of (o:=4) hz5);(have yf4:=frozen_of (o:=4) hz5);(have y5:=cell_of (o:=5) hz5);(have yf5:=frozen_of (o:=5) hz5);(have y6:=cell_of (o:=6) hz5);(have yf6:=frozen_of (o:=6) hz5);simp[zeroM] at y0 y1 y2 y3 y4 y5 y6;(have yp:=Pre.mk (heap_lt hz5));clear hz5)
      clear x0 xf0 x1 xf1 x2 xf2 x3 xf3 x4 xf4 x5 xf5 x6 xf6 xp;clear y0 yf0 y1 yf1 y2 yf2 y3 yf3 y4 yf4 y5 yf5 y6 yf6 yp;have PZ:=HZ5;have GZ:=hY (P11.out.w.trans (gw:Grew W12 (W12.more R5 n5)));have h7:=man_set7 PZ.out (.int .i64 ep) (.int .i64 pl) (.slice a3 os.length b3) (.slice a5 lc.length b5) (.slice a8 es.length b8) (.slice a10 ls.length b10) (.slice a11 lp.length b11);have g7:=Grew.set7 GZ.out (Nat.le_refl w.heap.size) (a:=.int .i64 ep) (b:=.int .i64 pl) (c:=.slice a3 os.length b3) (d:=.slice a5 lc.length b5) (e:=.slice a8 es.length b8) (f:=.slice a10 ls.length b10) (g:=.slice a11 lp.length b11);have hS:∀u,47≠u→Same u W12 ((((((((W12.more R5 n5).setCell ⟨w.heap.size,0,none⟩ (.int .i64 ep)).setCell ⟨w.heap.size,1,none⟩ (.int .i64 pl)).setCell ⟨w.heap.size,2,none⟩ (.slice a3 os.length b3)).setCell ⟨w.heap.size,3,none⟩ (.slice a5 lc.length b5)).setCell ⟨w.heap.size,4,none⟩ (.slice a8 es.length b8)).setCell ⟨w.heap.size,5,none⟩ (.slice a10 ls.length b10)).setCell ⟨w.heap.size,6,none⟩ (.slice a11 lp.length b11)):=fun u hu=>(Same.grew gw).trans (Same.but but7 PZ.out hu)
      generalize (((((((W12.more R5 n5).setCell ⟨w.heap.size,0,none⟩ (.int .i64 ep)).setCell ⟨w.heap.size,1,none⟩ (.int .i64 pl)).setCell ⟨w.heap.size,2,none⟩ (.slice a3 os.length b3)).setCell ⟨w.heap.size,3,none⟩ (.slice a5 lc.length b5)).setCell ⟨w.heap.size,4,none⟩ (.slice a8 es.length b8)).setCell ⟨w.heap.size,5,none⟩ (.slice a10 ls.length b10)).setCell ⟨w.heap.size,6,none⟩ (.slice a11 lp.length b11)=W14 at *;have x0:=cell_of (o:=0) h7;have xf0:=frozen_of (o:=0) h7;have x1:=cell_of (o:=1) h7;have xf1:=frozen_of (o:=1) h7;have x2:=cell_of (o:=2) h7;have xf2:=frozen_of (o:=2) h7;have x3:=cell_of (o:=3) h7;have xf3:=frozen_of (o:=3) h7;have x4:=cell_of (o:=4) h7;have xf4:=frozen_of (o:=4) h7;have x5:=cell_of (o:=5) h7;have xf5:=frozen_of (o:=5) h7;have x6:=cell_of (o:=6) h7;have xf6:=frozen_of (o:=6) h7;simp[zeroM] at x0 x1 x2 x3 x4 x5 x6;have xp:=Pre.mk (heap_lt h7);refine bodyPost_ret (v:=.tuple #[.agg #[.int .i64 ep,.int .i64 pl,.slice a3 os.length b3,.slice a5 lc.length b5,.slice a8 es.length b8,.slice a10 ls.length b10,.slice a11 lp.length b11],.int .i64 0]) (by simp[results,Tryz.results40,go_sem,x0,x1,x2,x3,x4,x5,x6]) rfl ?_;rw[HGE.o];exact⟨⟨ep,pl,a3,os.length,b3,a5,lc.length,b5,a8,es.length,b8,a10,ls.length,b10,a11,lp.length,b11⟩,rfl,mf_done P11.out HO12.o HI12.o hS,g7⟩
theorem getMan_any(s:List UInt8)(w:World)(hs:s.length≤100000): Calls Tryz.prog 40 #[.string ⟨s.toArray⟩] w (GetMPost (getMB s) w) :=
 (getManO_any s w hs).mono fun _ _ ⟨c,h1,h2,h3⟩=>⟨c,h1,h2.is,h3⟩
def Leaves(T:List TypeId)(W W':World): Prop:=∀(q:Nat) (o:Obj),W.heap[q]? = some o→(∀c t f,o = .cells c t f→t∉T)→W'.heap[q]? = some o
theorem Leaves.refl(T:List TypeId)(W:World): Leaves T W W:=fun _ _ h _=>h
theorem Leaves.trans{T:List TypeId}{a b c:World}(h:Leaves T a b)(k:Leaves T b c): Leaves T a c:=fun q o hq ht=>k q o (h q o hq ht) ht
theorem Leaves.mono{T T':List TypeId}{a b:World}(h:Leaves T a b)(hs:∀t∈T,t∈T'): Leaves T' a b:=fun q o hq ht=>h q o hq fun c t f e hm=>ht c t f e (hs t hm)
theorem Leaves.grew{T:List TypeId}{W W':World}(g:Grew W W'): Leaves T W W':=fun _ _ h _=>grew_heap g h
theorem Leaves.set{T:List TypeId}{W W':World}{b o:Nat}{v:Value}{c:Array Value}{t:TypeId}(h:Leaves T W W')(hb:W'.heap[b]? = some (.cells c t))(ht:t∈T): Leaves T W (W'.setCell ⟨b,o,none⟩ v):=fun q x hq hx=>by
 have h1:=h q x hq hx;by_cases e:b=q
 ·subst e;rw[hb] at h1;cases h1;exact absurd ht (hx _ _ _ rfl)
 ·rw[set_other e];exact h1
theorem Leaves.app{α:Type}{T:List TypeId}{w0 W W1 W':World}{e:TypeId}{k:Nat}{enc:α→List Value}{v v':Value}{l l':List α}(h:Leaves T W W1)(ho:OwnAt w0.heap.size e k enc W1 v l)(ha:Appended w0 e k enc W1 v l' v' W')(ht:e∈T): Leaves T W W':=fun q x hq hx=>by
 have h1:=h q x hq hx;rw[ha.2.2.2.1 q (heap_lt h1) fun e1=>?_]
 ·exact h1
 ·obtain⟨-,c,hc⟩:=OwnAt.block ho e1;rw[h1] at hc;cases hc;exact hx _ _ _ rfl ht
theorem Leaves.at{T:List TypeId}{W W':World}(h:Leaves T W W'){q:Nat}{c:Array Value}{t:TypeId}{f:Nat×Nat}(hq:W.heap[q]? = some (.cells c t f))(ht:t∉T): W'.heap[q]? = some (.cells c t f):=h q _ hq fun c' t' f' e=>by cases e;exact ht
theorem Leaves.type{T:List TypeId}{W W':World}(h:Leaves T W W'){t:TypeId}(ht:t∉T): Same t W W':=fun q c hq=>(h.at hq ht).trans hq.symm
theorem Leaves.own{α:Type}{T:List TypeId}{W W':World}{base:Nat}{e:TypeId}{k:Nat}{enc:α→List Value}{v:Value}{l:List α}(h:Leaves T W W')(ho:OwnAt base e k enc W v l)(ht:e∉T): OwnAt base e k enc W' v l:=OwnAt.sameT ho (h.type ht)
theorem Leaves.nodes{T:List TypeId}{W W':World}{base:Nat}{lc:List NdC}{l:List Gr.Nd}(h:Leaves T W W')(ho:NodesIn base W lc l)(h1:3∉T)(h2:187∉T): NodesIn base W' lc l:=ho.sameT (h.type h1) (h.type h2)
theorem Leaves.steps{T:List TypeId}{W W':World}{base:Nat}{lc:List StC}{l:List Gr.Stp}(h:Leaves T W W')(ho:StepsIn base W lc l)(h1:3∉T)(h2:187∉T): StepsIn base W' lc l:=ho.sameT (h.type h1) (h.type h2)
def NoData(T:List TypeId): Prop:=3∉T∧187∉T∧52∉T∧69∉T∧115∉T∧122∉T
theorem MfOwn.leaves{T:List TypeId}{W W':World}{base:Nat}{c:MfC}{m:Gr.Mf}(h:MfOwn base W c m)(g:Leaves T W W')(hT:NoData T): MfOwn base W' c m:=by
 obtain⟨lc,h1,h2⟩:=h.g;obtain⟨lp,h3,h4⟩:=h.p;obtain⟨t1,t2,t3,t4,t5,t6⟩:=hT;exact⟨h.epoch,h.plans,g.own h.o t1,⟨lc,g.own h1 t3,g.nodes h2 t1 t2⟩,g.own h.e t5,g.own h.x t6,⟨lp,g.own h3 t4,g.steps h4 t1 t2⟩⟩
def PlOwn(base:Nat)(w:World)(v:Value)(p:List Gr.Stp): Prop:=∃lc,StepsOwn base w v lc∧StepsIn base w lc p
theorem PlOwn.at{base:Nat}{w:World}{v:Value}{p:List Gr.Stp}(h:PlOwn base w v p): StepsAt w v p:=by
 obtain⟨lc,h1,h2⟩:=h;exact h2.at h1
theorem PlOwn.leaves{T:List TypeId}{W W':World}{base:Nat}{v:Value}{p:List Gr.Stp}(h:PlOwn base W v p)(g:Leaves T W W')(hT:NoData T): PlOwn base W' v p:=by
 obtain⟨lc,h1,h2⟩:=h;exact⟨lc,g.own h1 hT.2.2.2.1,g.steps h2 hT.1 hT.2.1⟩
theorem getPlan_own(s:List UInt8)(w:World)(hs:s.length≤100000): Calls Tryz.prog 44 #[.string ⟨s.toArray⟩] w fun e w'=>∃v,e = .returned (.tuple #[v,.int .i64 (Gr.getPl getL s).2])∧PlOwn w.heap.size w' v (Gr.getPl getL s).1∧Grew w w' :=
 (getPlanO_any s w hs).mono fun _ _ ⟨v,lc,h1,h2,h3,h4⟩=>⟨v,h1,⟨lc,h2,h3⟩,h4⟩
theorem str_at1(W:World)(x:List UInt8)(t:TypeId)(b:Nat){c:Array Value}(hc:c=#[.string ⟨x.toArray⟩])(hb:b=W.heap.size): ∀j u,(([x]:List (List UInt8)).flatMap encS)[j]? = some u→(W.alloc (.cells c t)).cell? ⟨b,j,none⟩=some u:=by
 subst hc;intro j u hu;rw[new_cells W _ t b hb j];simpa [encS] using hu
theorem app_blk{α:Type}{w0 W W1 W':World}{e:TypeId}{k:Nat}{enc:α→List Value}{v v':Value}{l':List α}(ha:Appended w0 e k enc W1 v l' v' W')(g:Grew W W1){q:Nat}{o:Obj}(h:W.heap[q]? = some o)(hq:v.ownBlock≠some q): W'.heap[q]? = some o:=by
 rw[ha.2.2.2.1 q (heap_lt (grew_heap g h)) hq];exact grew_heap g h
theorem Leaves.app0{α:Type}{T:List TypeId}{w0 W W1 W':World}{e:TypeId}{k:Nat}{enc:α→List Value}{v':Value}{l':List α}(ha:Appended w0 e k enc W1 (.slice none 0 0) l' v' W')(g:Grew W W1): Leaves T W W':=fun q o hq _=>app_blk ha g hq (by intro h;cases h)
def Twin(t:TypeId)(A B:World): Prop:=Leaves [t] A B∧A.heap.size=B.heap.size
theorem Twin.new(t:TypeId)(X:World)(c c':Array Value): Twin t (X.alloc (.cells c t)) (X.alloc (.cells c' t)):=by
 refine⟨fun q o hq ho=>?_,by simp[World.size_alloc]⟩;by_cases e:q=X.heap.size
 ·rw[heap_new_at X _ q e] at hq;cases hq;exact absurd (by simp) (ho _ _ _ rfl)
 ·have hl:=heap_lt hq;rw[World.size_alloc] at hl;have h1:(X.alloc (.cells c t)).heap[q]? = X.heap[q]? :=Array.getElem?_push_lt (by omega) |>.trans (by rw[Array.getElem?_eq_getElem (by omega)])
  have h2:(X.alloc (.cells c' t)).heap[q]? = X.heap[q]? :=Array.getElem?_push_lt (by omega) |>.trans (by rw[Array.getElem?_eq_getElem (by omega)])
  rw[h2,←h1];exact hq
theorem Twin.more{t:TypeId}{A B:World}(h:Twin t A B)(R:Array Obj)(n:Nat): Twin t (A.more R n) (B.more R n):=by
 refine⟨fun q o hq ho=>?_,by simp[World.more_size,h.2]⟩;by_cases hl:q<A.heap.size
 ·rw[World.heap_more R n q hl] at hq;rw[World.heap_more R n q (by rw[←h.2];exact hl)];exact h.1 q o hq ho
 ·rw[heap_more_in A R n q (by omega)] at hq;rw[heap_more_in B R n q (by rw[←h.2];omega),←h.2];exact hq
theorem Twin.alloc{t:TypeId}{A B:World}(h:Twin t A B)(o:Obj): Twin t (A.alloc o) (B.alloc o):=by
 rw[World.alloc_more,World.alloc_more];refine⟨fun q o' hq ho=>?_,by simp[World.more_size,h.2]⟩;exact(h.more #[o] A.drawn).1 q o' hq ho
theorem Twin.own{t:TypeId}{A B:World}(h:Twin t A B){base:Nat}{c:MfC}{m:Gr.Mf}(hm:MfOwn base A c m)(hT:NoData [t]): MfOwn base B c m:=hm.leaves h.1 hT
theorem set_blk{W:World}{b o:Nat}{c c':Array Value}{t:TypeId}{v:Value}(h:W.heap[b]? = some (.cells c t))(e:c.setIfInBounds o v=c'): (W.setCell ⟨b,o,none⟩ v).heap[b]? = some (.cells c' t):=by
 rw[set_self h,e]
theorem u8_back{x:Int}(h:0≤x∧x<256): ((UInt8.ofNat x.toNat).toNat:Int)=x:=by
 have:(UInt8.ofNat x.toNat).toNat=x.toNat%256:=rfl;rw[this];omega
theorem conv4(w:World)(x0 x1 x2 x3:Int)(h0:0≤x0∧x0<256)(h1:0≤x1∧x1<256)(h2:0≤x2∧x2<256)(h3:0≤x3∧x3<256): (convert 145 9 (.slice (some ⟨w.heap.size,0,none⟩) 4 4)).run Tryz.prog (w.alloc (.cells #[.int .u8 x0,.int .u8 x1,.int .u8 x2,.int .u8 x3] 5)) = .ok (.string ⟨[UInt8.ofNat x0.toNat,UInt8.ofNat x1.toNat,UInt8.ofNat x2.toNat,UInt8.ofNat x3.toNat].toArray⟩) (w.alloc (.cells #[.int .u8 x0,.int .u8 x1,.int .u8 x2,.int .u8 x3] 5)):=by
 refine run_convert_bytes_back _ _ _ 5 ⟨w.heap.size,0,none⟩ 4 [UInt8.ofNat x0.toNat,UInt8.ofNat x1.toNat,UInt8.ofNat x2.toNat,UInt8.ofNat x3.toNat] Tryz.underlying145 Tryz.underlying5 Tryz.underlying9 ?_;intro j hj;rw[addr_add_zero,new_cells w _ _ _ rfl];rcases (show j=0∨j=1∨j=2∨j=3 by simp at hj;omega) with rfl|rfl|rfl|rfl
 ·show some (Value.int .u8 x0)=some (.int .u8 ((UInt8.ofNat x0.toNat).toNat:Int));rw[u8_back h0]
 ·show some (Value.int .u8 x1)=some (.int .u8 ((UInt8.ofNat x1.toNat).toNat:Int));rw[u8_back h1]
 ·show some (Value.int .u8 x2)=some (.int .u8 ((UInt8.ofNat x2.toNat).toNat:Int));rw[u8_back h2]
 ·show some (Value.int .u8 x3)=some (.int .u8 ((UInt8.ofNat x3.toNat).toNat:Int));rw[u8_back h3]
theorem sumFour_any(n:Int)(w:World): Calls Tryz.prog 147 #[.int .i64 n] w fun e w'=>∃b:List UInt8,b.length=4∧Gives (str b) w e w':=by
 have hk:=conv4 w (n / 16777216%256) (n / 65536%256) (n / 256%256) (n%256) (by omega) (by omega) (by omega) (by omega);go_enter Tryz.func147,Tryz.ntmps147;go_wp2;go_ret;exact⟨_,rfl,rfl,gw⟩
theorem sumOf_any(v:Value)(ls:List (List UInt8))(w:World)(hv:RowsAt 1 encS w v ls)(hl:∀l∈ls,l.length≤1000000): Calls Tryz.prog 148 #[v] w fun e w'=>∃y:Int,Gives (.int .i64 y) w e w':=by
 have HV:=hY hv;have HL:=hY hl;obtain⟨a,cap,rfl,hn,-⟩:=hv.open1;clear hv hl;go_enter Tryz.func148,Tryz.ntmps148;go_wp2
 go_loopg [3,9] ls.length (fun gg s3 s9 wr=>∃k:Nat,k≤ls.length∧ls.length-k≤gg∧s9 = .int .i64 k∧(∃y:Int,s3 = .int .u32 y)∧Hid (Grew w wr))
 case atStart=>exact⟨0,by omega,by omega,rfl,⟨_,rfl⟩,hY (Grew.refl _)⟩
 case round =>
  obtain⟨k,hk,hgg,rfl,⟨y,rfl⟩,HG⟩:=hrel;rename World=>wa;by_cases hlt:k<ls.length
  ·obtain⟨a',cap',e,-,hx⟩:=((HV.o.grew HG.o)).open1;cases e;obtain⟨b,off,rfl,hb,hc⟩:=hx k hlt;have HM:=hY (HL.o ls[k] (List.getElem_mem hlt));generalize ls[k]=s at *;have hsz:(s.length:Int)≤9223372036854775807:=by have:=HM.o;omega
   clear hx;have hk2:(k:Int)<ls.length:=by omega
   go_wp2
   go_loopg [3,15] s.length (fun gg s3 s15 wr=>∃i:Nat,i≤s.length∧s.length-i≤gg∧s15 = .int .i64 i∧(∃y:Int,s3 = .int .u32 y)∧Hid (Grew w wr))
   case atStart=>exact⟨0,by omega,by omega,rfl,⟨_,rfl⟩,HG⟩
   case round =>
    obtain⟨i,hi,hgi,rfl,⟨z,rfl⟩,HG2⟩:=hrel;rename World=>wb;by_cases hil:i<s.length
    ·have hi2:(i:Int)<s.length:=by omega
     go_wp2_with (go_at_call 189;refine(sumStep_any _ _ _).mono ?_;rintro e w1 ⟨y1,rfl,R3,n3,rfl⟩)
     go_roundg (s.length-(i+1))
     case measure=>omega
     case rel=>exact⟨i+1,by omega,by omega,by go_num,⟨_,rfl⟩,hY (HG2.o.trans gw)⟩
    ·obtain rfl:i=s.length:=by omega
     go_wp2
     go_roundg (ls.length-(k+1))
     case measure=>omega
     case rel=>exact⟨k+1,by omega,by omega,by go_num,⟨_,rfl⟩,hY (HG2.o.trans gw)⟩
  ·obtain rfl:k=ls.length:=by omega
   go_wp2;go_ret;exact⟨_,rfl,HG.o.trans gw⟩
end Go.Proofs.YtipgfjihdglocaaGreat
