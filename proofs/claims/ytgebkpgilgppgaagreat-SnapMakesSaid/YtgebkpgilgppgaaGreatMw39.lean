import Derived.Test.YtgebkpgilgppgaaGreatMw38
import Derived.Test.YtgebkpgilgppgaaGreatMw5
import Derived.Test.YtgebkpgilgppgaaGreatMw21
import Derived.Test.YtgebkpgilgppgaaGreatMw24
import Derived.Deep.DeepCutAuto
import Derived.Test.YtgebkpgilgppgaaGreatMw9
import Derived.Test.YtgebkpgilgppgaaGreatMw0
import Derived.Test.YtgebkpgilgppgaaGreatMw15
import Derived.Test.YtgebkpgilgppgaaGreatMw36
import Derived.Test.YtgebkpgilgppgaaGreatMw11
import Derived.Test.YtgebkpgilgppgaaGreatMw27
import Derived.Test.YtgebkpgilgppgaaGreatMw32
import Derived.Test.YtgebkpgilgppgaaGreatMw10
set_option linter.unusedSimpArgs false
set_option linter.unusedVariables false
set_option maxRecDepth 100000
set_option maxHeartbeats 64000000
namespace Go.Proofs.YtgebkpgilgppgaaGreat
open Go.RowKit Ga
open Classical in
def Be(g:List Gr.Nd): Int:=match Gr.nodeOf g 0 with
 | none=>0
 | some n=>n.par
open Classical in
noncomputable def BS(m:Gr.Mf): Bool:=BR m.epoch 2147483647&&(BR m.plans 2147483647&&(decide (AP m.graph=0)&&(Cf m.graph&&(decide ((m.out.length:Int)≤4000)&&(VR m.plan&&(((m.offs.length:Int)==Be m.graph)&&(!(m.offs.any fun x=> !(BR x 400))&&(Kw m.ents m.graph&&(!(m.out.any fun x=> !(DY x)))))))))))
theorem CK{l:List Gr.Nd}(h:Gr.RightR l): ∃n,Gr.nodeOf l 0=some n:=by
 have hz:(0:Int)∈Gr.ids l:=((Gr.right_iff (List.Perm.refl l)).1 h).z;obtain⟨n,hn,e⟩:=List.mem_map.1 hz;have:=Gr.bind_find h.ids hn;rw[e] at this;exact⟨n,this⟩
open Classical in
theorem CL{l:List Gr.Nd}(h:AP l=0): Gr.RightR l:=by
 unfold AP at h;split at h
 ·cases h
 ·split at h
  ·assumption
  ·cases h
open Classical in
theorem VS(c:Dy)(m:Gr.Mf)(w:World)(h:Dl w c m)(hs:Small m.graph)(hp:∀s∈m.plan,s.nd.frm.length≤100∧s.nd.prog.length≤1000)(he:m.ents.length≤100000)(h1:(BR m.epoch 2147483647)=false): Calls Tryz.prog 9 #[.agg #[.int .i64 c.epoch,.int .i64 c.plans,.slice c.ao c.no c.co,.slice c.ag c.ng c.cg,.slice c.ae c.ne c.ce,.slice c.ax c.nx c.cx,.slice c.ap c.np c.cp]] w (Ac (.bool false) w):=by
 have e1:=h.epoch;have e2:=h.plans;have HG:=hY h.g;have HO:=hY h.o;have HE:=hY h.e;have HX:=hY h.x;have HP:=hY h.p;have HS:=hY hs;have HPS:=hY hp;obtain⟨ep,pl,ao,co,ag,cg,ae,ce,ax,cx,ap,cp,rfl⟩:=h.lit;simp only at e1 e2 HG HO HE HX HP;clear h hs hp;have hn1:=fun W=>Aq ep 2147483647 W
 rw[←e1,h1] at hn1;rw[e1] at hn1;have HN1:=hY hn1;clear hn1 e1 e2 h1;show Calls Tryz.prog _ #[.agg #[.int .i64 ep,.int .i64 pl,.slice ao m.offs.length co,.slice ag m.graph.length cg,.slice ae m.ents.length ce,.slice ax m.out.length cx,.slice ap m.plan.length cp]] w _;go_enter Tryz.func9,Tryz.ntmps9
 go_wp2_with (first
  | (go_at_call 29;((with_reducible refine(HN1.o _).mono ?_);rintro e w1 ⟨rfl,rfl⟩))
  | fail)
 go_ret;exact⟨rfl,gw⟩
open Classical in
theorem VT(c:Dy)(m:Gr.Mf)(w:World)(h:Dl w c m)(hs:Small m.graph)(hp:∀s∈m.plan,s.nd.frm.length≤100∧s.nd.prog.length≤1000)(he:m.ents.length≤100000)(h1:(BR m.epoch 2147483647)=true)(h2:(BR m.plans 2147483647)=false): Calls Tryz.prog 9 #[.agg #[.int .i64 c.epoch,.int .i64 c.plans,.slice c.ao c.no c.co,.slice c.ag c.ng c.cg,.slice c.ae c.ne c.ce,.slice c.ax c.nx c.cx,.slice c.ap c.np c.cp]] w (Ac (.bool false) w):=by
 have e1:=h.epoch;have e2:=h.plans;have HG:=hY h.g;have HO:=hY h.o;have HE:=hY h.e;have HX:=hY h.x;have HP:=hY h.p;have HS:=hY hs;have HPS:=hY hp;obtain⟨ep,pl,ao,co,ag,cg,ae,ce,ax,cx,ap,cp,rfl⟩:=h.lit;simp only at e1 e2 HG HO HE HX HP;clear h hs hp;have hn1:=fun W=>Aq ep 2147483647 W
 rw[←e1,h1] at hn1;have hn2:=fun W=>Aq pl 2147483647 W
 rw[←e2,h2] at hn2;rw[e1] at hn1;rw[e2] at hn2;have HN1:=hY hn1;have HN2:=hY hn2;clear hn1 e1 e2 h1 h2 hn2;show Calls Tryz.prog _ #[.agg #[.int .i64 ep,.int .i64 pl,.slice ao m.offs.length co,.slice ag m.graph.length cg,.slice ae m.ents.length ce,.slice ax m.out.length cx,.slice ap m.plan.length cp]] w _;go_enter Tryz.func9,Tryz.ntmps9
 go_wp2_with (first
  | (go_at_call 29;((with_reducible refine(HN1.o _).mono ?_);rintro e w1 ⟨rfl,rfl⟩))
  | (go_at_call 29;((with_reducible refine(HN2.o _).mono ?_);rintro e w1 ⟨rfl,rfl⟩))
  | fail)
 go_ret;exact⟨rfl,gw⟩
open Classical in
theorem VU(c:Dy)(m:Gr.Mf)(w:World)(h:Dl w c m)(hs:Small m.graph)(hp:∀s∈m.plan,s.nd.frm.length≤100∧s.nd.prog.length≤1000)(he:m.ents.length≤100000)(h1:(BR m.epoch 2147483647)=true)(h2:(BR m.plans 2147483647)=true)(h3:(decide (AP m.graph=0))=false): Calls Tryz.prog 9 #[.agg #[.int .i64 c.epoch,.int .i64 c.plans,.slice c.ao c.no c.co,.slice c.ag c.ng c.cg,.slice c.ae c.ne c.ce,.slice c.ax c.nx c.cx,.slice c.ap c.np c.cp]] w (Ac (.bool false) w):=by
 have e1:=h.epoch;have e2:=h.plans;have HG:=hY h.g;have HO:=hY h.o;have HE:=hY h.e;have HX:=hY h.x;have HP:=hY h.p;have HS:=hY hs;have HPS:=hY hp;obtain⟨ep,pl,ao,co,ag,cg,ae,ce,ax,cx,ap,cp,rfl⟩:=h.lit;simp only at e1 e2 HG HO HE HX HP;clear h hs hp;have hn1:=fun W=>Aq ep 2147483647 W
 rw[←e1,h1] at hn1;have hn2:=fun W=>Aq pl 2147483647 W
 rw[←e2,h2] at hn2;rw[e1] at hn1;rw[e2] at hn2;have HN1:=hY hn1;have HN2:=hY hn2;have hc0:¬AP m.graph=0:=of_decide_eq_false h3;have hc1:(AP m.graph != 0)=true:=by rw[bne_iff_ne];exact hc0
 clear hc0;clear hn1 e1 e2 h1 h2 h3 hn2;show Calls Tryz.prog _ #[.agg #[.int .i64 ep,.int .i64 pl,.slice ao m.offs.length co,.slice ag m.graph.length cg,.slice ae m.ents.length ce,.slice ax m.out.length cx,.slice ap m.plan.length cp]] w _;go_enter Tryz.func9,Tryz.ntmps9
 go_wp2_with (first
  | (go_at_call 29;((with_reducible refine(HN1.o _).mono ?_);rintro e w1 ⟨rfl,rfl⟩))
  | (go_at_call 29;((with_reducible refine(HN2.o _).mono ?_);rintro e w1 ⟨rfl,rfl⟩))
  | (go_at_call 26;refine(BU _ m.graph _ (HG.o.grew gw) HS.o).mono ?_;rintro e w1 ⟨rfl,R1,n1,rfl⟩)
  | fail)
 go_ret;exact⟨rfl,gw⟩
open Classical in
theorem VV(c:Dy)(m:Gr.Mf)(w:World)(h:Dl w c m)(hs:Small m.graph)(hp:∀s∈m.plan,s.nd.frm.length≤100∧s.nd.prog.length≤1000)(he:m.ents.length≤100000)(h1:(BR m.epoch 2147483647)=true)(h2:(BR m.plans 2147483647)=true)(h3:(decide (AP m.graph=0))=true)(h4:(Cf m.graph)=false): Calls Tryz.prog 9 #[.agg #[.int .i64 c.epoch,.int .i64 c.plans,.slice c.ao c.no c.co,.slice c.ag c.ng c.cg,.slice c.ae c.ne c.ce,.slice c.ax c.nx c.cx,.slice c.ap c.np c.cp]] w (Ac (.bool false) w):=by
 have e1:=h.epoch;have e2:=h.plans;have HG:=hY h.g;have HO:=hY h.o;have HE:=hY h.e;have HX:=hY h.x;have HP:=hY h.p;have HS:=hY hs;have HPS:=hY hp;obtain⟨ep,pl,ao,co,ag,cg,ae,ce,ax,cx,ap,cp,rfl⟩:=h.lit;simp only at e1 e2 HG HO HE HX HP;clear h hs hp;have hn1:=fun W=>Aq ep 2147483647 W
 rw[←e1,h1] at hn1;have hn2:=fun W=>Aq pl 2147483647 W
 rw[←e2,h2] at hn2;rw[e1] at hn1;rw[e2] at hn2;have HN1:=hY hn1;have HN2:=hY hn2;have hc0:AP m.graph=0:=of_decide_eq_true h3;have hrr:=CL hc0;have HC0:=hY hc0;have HID:=hY fun n (hn:n∈m.graph)=>(show 0≤n.id∧n.id≤1000 from by have:=hrr.r7 n hn;omega)
 have hgl:m.graph.length≤1000:=by have:=hrr.len;omega
 have H4:=hY h4;clear hn1 e1 e2 h1 h2 h3 h4 hn2 hc0 hrr;show Calls Tryz.prog _ #[.agg #[.int .i64 ep,.int .i64 pl,.slice ao m.offs.length co,.slice ag m.graph.length cg,.slice ae m.ents.length ce,.slice ax m.out.length cx,.slice ap m.plan.length cp]] w _;go_enter Tryz.func9,Tryz.ntmps9
 go_wp2_with (first
  | (go_at_call 29;((with_reducible refine(HN1.o _).mono ?_);rintro e w1 ⟨rfl,rfl⟩))
  | (go_at_call 29;((with_reducible refine(HN2.o _).mono ?_);rintro e w1 ⟨rfl,rfl⟩))
  | (go_at_call 26;refine(BU _ m.graph _ (HG.o.grew gw) HS.o).mono ?_;rintro e w1 ⟨rfl,R1,n1,rfl⟩;rw[HC0.o])
  | (go_at_call 30;refine(DW _ m.graph _ (HG.o.grew gw) HID.o (by omega)).mono ?_;rintro e w1 ⟨rfl,R2,n2,rfl⟩;rw[H4.o])
  | fail)
 go_ret;exact⟨rfl,gw⟩
open Classical in
theorem VW(c:Dy)(m:Gr.Mf)(w:World)(h:Dl w c m)(hs:Small m.graph)(hp:∀s∈m.plan,s.nd.frm.length≤100∧s.nd.prog.length≤1000)(he:m.ents.length≤100000)(h1:(BR m.epoch 2147483647)=true)(h2:(BR m.plans 2147483647)=true)(h3:(decide (AP m.graph=0))=true)(h4:(Cf m.graph)=true)(h5:(decide ((m.out.length:Int)≤4000))=false): Calls Tryz.prog 9 #[.agg #[.int .i64 c.epoch,.int .i64 c.plans,.slice c.ao c.no c.co,.slice c.ag c.ng c.cg,.slice c.ae c.ne c.ce,.slice c.ax c.nx c.cx,.slice c.ap c.np c.cp]] w (Ac (.bool false) w):=by
 have e1:=h.epoch;have e2:=h.plans;have HG:=hY h.g;have HO:=hY h.o;have HE:=hY h.e;have HX:=hY h.x;have HP:=hY h.p;have HS:=hY hs;have HPS:=hY hp;obtain⟨ep,pl,ao,co,ag,cg,ae,ce,ax,cx,ap,cp,rfl⟩:=h.lit;simp only at e1 e2 HG HO HE HX HP;clear h hs hp;have hn1:=fun W=>Aq ep 2147483647 W
 rw[←e1,h1] at hn1;have hn2:=fun W=>Aq pl 2147483647 W
 rw[←e2,h2] at hn2;rw[e1] at hn1;rw[e2] at hn2;have HN1:=hY hn1;have HN2:=hY hn2;have hc0:AP m.graph=0:=of_decide_eq_true h3;have hrr:=CL hc0;have HC0:=hY hc0;have HID:=hY fun n (hn:n∈m.graph)=>(show 0≤n.id∧n.id≤1000 from by have:=hrr.r7 n hn;omega)
 have hgl:m.graph.length≤1000:=by have:=hrr.len;omega
 have H4:=hY h4;have ho5:=of_decide_eq_false h5;have ho6:(4000:Int)<(m.out.length:Int):=by omega
 clear ho5;clear hn1 e1 e2 h1 h2 h3 h4 h5 hn2 hc0 hrr;show Calls Tryz.prog _ #[.agg #[.int .i64 ep,.int .i64 pl,.slice ao m.offs.length co,.slice ag m.graph.length cg,.slice ae m.ents.length ce,.slice ax m.out.length cx,.slice ap m.plan.length cp]] w _;go_enter Tryz.func9,Tryz.ntmps9
 go_wp2_with (first
  | (go_at_call 29;((with_reducible refine(HN1.o _).mono ?_);rintro e w1 ⟨rfl,rfl⟩))
  | (go_at_call 29;((with_reducible refine(HN2.o _).mono ?_);rintro e w1 ⟨rfl,rfl⟩))
  | (go_at_call 26;refine(BU _ m.graph _ (HG.o.grew gw) HS.o).mono ?_;rintro e w1 ⟨rfl,R1,n1,rfl⟩;rw[HC0.o])
  | (go_at_call 30;refine(DW _ m.graph _ (HG.o.grew gw) HID.o (by omega)).mono ?_;rintro e w1 ⟨rfl,R2,n2,rfl⟩;rw[H4.o])
  | fail)
 go_ret;exact⟨rfl,gw⟩
open Classical in
theorem VX(c:Dy)(m:Gr.Mf)(w:World)(h:Dl w c m)(hs:Small m.graph)(hp:∀s∈m.plan,s.nd.frm.length≤100∧s.nd.prog.length≤1000)(he:m.ents.length≤100000)(h1:(BR m.epoch 2147483647)=true)(h2:(BR m.plans 2147483647)=true)(h3:(decide (AP m.graph=0))=true)(h4:(Cf m.graph)=true)(h5:(decide ((m.out.length:Int)≤4000))=true)(h6:(VR m.plan)=false): Calls Tryz.prog 9 #[.agg #[.int .i64 c.epoch,.int .i64 c.plans,.slice c.ao c.no c.co,.slice c.ag c.ng c.cg,.slice c.ae c.ne c.ce,.slice c.ax c.nx c.cx,.slice c.ap c.np c.cp]] w (Ac (.bool false) w):=by
 have e1:=h.epoch;have e2:=h.plans;have HG:=hY h.g;have HO:=hY h.o;have HE:=hY h.e;have HX:=hY h.x;have HP:=hY h.p;have HS:=hY hs;have HPS:=hY hp;obtain⟨ep,pl,ao,co,ag,cg,ae,ce,ax,cx,ap,cp,rfl⟩:=h.lit;simp only at e1 e2 HG HO HE HX HP;clear h hs hp;have hn1:=fun W=>Aq ep 2147483647 W
 rw[←e1,h1] at hn1;have hn2:=fun W=>Aq pl 2147483647 W
 rw[←e2,h2] at hn2;rw[e1] at hn1;rw[e2] at hn2;have HN1:=hY hn1;have HN2:=hY hn2;have hc0:AP m.graph=0:=of_decide_eq_true h3;have hrr:=CL hc0;have HC0:=hY hc0;have HID:=hY fun n (hn:n∈m.graph)=>(show 0≤n.id∧n.id≤1000 from by have:=hrr.r7 n hn;omega)
 have hgl:m.graph.length≤1000:=by have:=hrr.len;omega
 have H4:=hY h4;have ho5:=of_decide_eq_true h5;have ho6:¬(4000:Int)<(m.out.length:Int):=by omega
 clear ho5;obtain⟨src,hsrc⟩:=CK hrr;have hfi:=fun W (g:AA w W)=>DU _ m.graph 0 W (HG.o.grew g) HS.o
 rw[hsrc] at hfi;have HF:=hY hfi;have hpo:Be m.graph=src.par:=by unfold Be;rw[hsrc]
 have H6:=hY h6;clear hn1 e1 e2 h1 h2 h3 h4 h5 h6 hn2 hc0 hfi hpo hsrc hrr;show Calls Tryz.prog _ #[.agg #[.int .i64 ep,.int .i64 pl,.slice ao m.offs.length co,.slice ag m.graph.length cg,.slice ae m.ents.length ce,.slice ax m.out.length cx,.slice ap m.plan.length cp]] w _;go_enter Tryz.func9,Tryz.ntmps9
 go_wp2_with (first
  | (go_at_call 29;((with_reducible refine(HN1.o _).mono ?_);rintro e w1 ⟨rfl,rfl⟩))
  | (go_at_call 29;((with_reducible refine(HN2.o _).mono ?_);rintro e w1 ⟨rfl,rfl⟩))
  | (go_at_call 26;refine(BU _ m.graph _ (HG.o.grew gw) HS.o).mono ?_;rintro e w1 ⟨rfl,R1,n1,rfl⟩;rw[HC0.o])
  | (go_at_call 30;refine(DW _ m.graph _ (HG.o.grew gw) HID.o (by omega)).mono ?_;rintro e w1 ⟨rfl,R2,n2,rfl⟩;rw[H4.o])
  | (go_at_call 28;refine(HF.o _ gw).mono ?_;rintro e w1 ⟨c9,rfl,h9,-,R3,n3,rfl⟩;(have hpar:=h9.par);obtain⟨cid,kind,af9,cf9,ap9,cp9,par,r0,r1,r2,r3,r4,r5,r6,r7,rfl⟩:=h9.lit;simp only at hpar;clear h9 hpar)
  | (go_at_call 34;refine(D8 _ m.plan _ (HP.o.grew gw) HPS.o).mono ?_;rintro e w1 ⟨rfl,R4,n4,rfl⟩;rw[H6.o])
  | fail)
 go_ret;exact⟨rfl,gw⟩
open Classical in
theorem VY(c:Dy)(m:Gr.Mf)(w:World)(h:Dl w c m)(hs:Small m.graph)(hp:∀s∈m.plan,s.nd.frm.length≤100∧s.nd.prog.length≤1000)(he:m.ents.length≤100000)(h1:(BR m.epoch 2147483647)=true)(h2:(BR m.plans 2147483647)=true)(h3:(decide (AP m.graph=0))=true)(h4:(Cf m.graph)=true)(h5:(decide ((m.out.length:Int)≤4000))=true)(h6:(VR m.plan)=true)(h7:(((m.offs.length:Int)==Be m.graph))=false): Calls Tryz.prog 9 #[.agg #[.int .i64 c.epoch,.int .i64 c.plans,.slice c.ao c.no c.co,.slice c.ag c.ng c.cg,.slice c.ae c.ne c.ce,.slice c.ax c.nx c.cx,.slice c.ap c.np c.cp]] w (Ac (.bool false) w):=by
 have e1:=h.epoch;have e2:=h.plans;have HG:=hY h.g;have HO:=hY h.o;have HE:=hY h.e;have HX:=hY h.x;have HP:=hY h.p;have HS:=hY hs;have HPS:=hY hp;obtain⟨ep,pl,ao,co,ag,cg,ae,ce,ax,cx,ap,cp,rfl⟩:=h.lit;simp only at e1 e2 HG HO HE HX HP;clear h hs hp;have hn1:=fun W=>Aq ep 2147483647 W
 rw[←e1,h1] at hn1;have hn2:=fun W=>Aq pl 2147483647 W
 rw[←e2,h2] at hn2;rw[e1] at hn1;rw[e2] at hn2;have HN1:=hY hn1;have HN2:=hY hn2;have hc0:AP m.graph=0:=of_decide_eq_true h3;have hrr:=CL hc0;have HC0:=hY hc0;have HID:=hY fun n (hn:n∈m.graph)=>(show 0≤n.id∧n.id≤1000 from by have:=hrr.r7 n hn;omega)
 have hgl:m.graph.length≤1000:=by have:=hrr.len;omega
 have H4:=hY h4;have ho5:=of_decide_eq_true h5;have ho6:¬(4000:Int)<(m.out.length:Int):=by omega
 clear ho5;obtain⟨src,hsrc⟩:=CK hrr;have hfi:=fun W (g:AA w W)=>DU _ m.graph 0 W (HG.o.grew g) HS.o
 rw[hsrc] at hfi;have HF:=hY hfi;have hpo:Be m.graph=src.par:=by unfold Be;rw[hsrc]
 have QPAR:((m.offs.length:Int)==src.par)=false:=by rw[←hpo];exact h7
 have H6:=hY h6;clear hn1 e1 e2 h1 h2 h3 h4 h5 h6 h7 hn2 hc0 hfi hpo hsrc hrr;show Calls Tryz.prog _ #[.agg #[.int .i64 ep,.int .i64 pl,.slice ao m.offs.length co,.slice ag m.graph.length cg,.slice ae m.ents.length ce,.slice ax m.out.length cx,.slice ap m.plan.length cp]] w _;go_enter Tryz.func9,Tryz.ntmps9
 go_wp2_with (first
  | (go_at_call 29;((with_reducible refine(HN1.o _).mono ?_);rintro e w1 ⟨rfl,rfl⟩))
  | (go_at_call 29;((with_reducible refine(HN2.o _).mono ?_);rintro e w1 ⟨rfl,rfl⟩))
  | (go_at_call 26;refine(BU _ m.graph _ (HG.o.grew gw) HS.o).mono ?_;rintro e w1 ⟨rfl,R1,n1,rfl⟩;rw[HC0.o])
  | (go_at_call 30;refine(DW _ m.graph _ (HG.o.grew gw) HID.o (by omega)).mono ?_;rintro e w1 ⟨rfl,R2,n2,rfl⟩;rw[H4.o])
  | (go_at_call 28;refine(HF.o _ gw).mono ?_;rintro e w1 ⟨c9,rfl,h9,-,R3,n3,rfl⟩;(have hpar:=h9.par);obtain⟨cid,kind,af9,cf9,ap9,cp9,par,r0,r1,r2,r3,r4,r5,r6,r7,rfl⟩:=h9.lit;simp only at hpar;rw[hpar] at QPAR;clear h9 hpar)
  | (go_at_call 34;refine(D8 _ m.plan _ (HP.o.grew gw) HPS.o).mono ?_;rintro e w1 ⟨rfl,R4,n4,rfl⟩;rw[H6.o])
  | fail)
 go_ret;exact⟨rfl,gw⟩
open Classical in
theorem VZ(c:Dy)(m:Gr.Mf)(w:World)(h:Dl w c m)(hs:Small m.graph)(hp:∀s∈m.plan,s.nd.frm.length≤100∧s.nd.prog.length≤1000)(he:m.ents.length≤100000)(h1:(BR m.epoch 2147483647)=true)(h2:(BR m.plans 2147483647)=true)(h3:(decide (AP m.graph=0))=true)(h4:(Cf m.graph)=true)(h5:(decide ((m.out.length:Int)≤4000))=true)(h6:(VR m.plan)=true)(h7:(((m.offs.length:Int)==Be m.graph))=true)(h8:(!(m.offs.any fun x=> !(BR x 400)))=false): Calls Tryz.prog 9 #[.agg #[.int .i64 c.epoch,.int .i64 c.plans,.slice c.ao c.no c.co,.slice c.ag c.ng c.cg,.slice c.ae c.ne c.ce,.slice c.ax c.nx c.cx,.slice c.ap c.np c.cp]] w (Ac (.bool false) w):=by
 have e1:=h.epoch;have e2:=h.plans;have HG:=hY h.g;have HO:=hY h.o;have HE:=hY h.e;have HX:=hY h.x;have HP:=hY h.p;have HS:=hY hs;have HPS:=hY hp;obtain⟨ep,pl,ao,co,ag,cg,ae,ce,ax,cx,ap,cp,rfl⟩:=h.lit;simp only at e1 e2 HG HO HE HX HP;clear h hs hp;have hn1:=fun W=>Aq ep 2147483647 W
 rw[←e1,h1] at hn1;have hn2:=fun W=>Aq pl 2147483647 W
 rw[←e2,h2] at hn2;rw[e1] at hn1;rw[e2] at hn2;have HN1:=hY hn1;have HN2:=hY hn2;have hc0:AP m.graph=0:=of_decide_eq_true h3;have hrr:=CL hc0;have HC0:=hY hc0;have HID:=hY fun n (hn:n∈m.graph)=>(show 0≤n.id∧n.id≤1000 from by have:=hrr.r7 n hn;omega)
 have hgl:m.graph.length≤1000:=by have:=hrr.len;omega
 have H4:=hY h4;have ho5:=of_decide_eq_true h5;have ho6:¬(4000:Int)<(m.out.length:Int):=by omega
 clear ho5;obtain⟨src,hsrc⟩:=CK hrr;have hfi:=fun W (g:AA w W)=>DU _ m.graph 0 W (HG.o.grew g) HS.o
 rw[hsrc] at hfi;have HF:=hY hfi;have hpo:Be m.graph=src.par:=by unfold Be;rw[hsrc]
 have QPAR:((m.offs.length:Int)==src.par)=true:=by rw[←hpo];exact h7
 have H6:=hY h6;have h8b:(m.offs.any fun x=> !(BR x 400))=true:=by cases hq:(m.offs.any fun x=> !(BR x 400))<;>rw[hq] at h8<;>first|rfl|cases h8
 have H8:=hY h8b;clear hn1 e1 e2 h1 h2 h3 h4 h5 h6 h7 h8 hn2 hc0 hfi hpo hsrc hrr h8b;show Calls Tryz.prog _ #[.agg #[.int .i64 ep,.int .i64 pl,.slice ao m.offs.length co,.slice ag m.graph.length cg,.slice ae m.ents.length ce,.slice ax m.out.length cx,.slice ap m.plan.length cp]] w _;go_enter Tryz.func9,Tryz.ntmps9
 go_wp2_with (first
  | (go_at_call 29;((with_reducible refine(HN1.o _).mono ?_);rintro e w1 ⟨rfl,rfl⟩))
  | (go_at_call 29;((with_reducible refine(HN2.o _).mono ?_);rintro e w1 ⟨rfl,rfl⟩))
  | (go_at_call 26;refine(BU _ m.graph _ (HG.o.grew gw) HS.o).mono ?_;rintro e w1 ⟨rfl,R1,n1,rfl⟩;rw[HC0.o])
  | (go_at_call 30;refine(DW _ m.graph _ (HG.o.grew gw) HID.o (by omega)).mono ?_;rintro e w1 ⟨rfl,R2,n2,rfl⟩;rw[H4.o])
  | (go_at_call 28;refine(HF.o _ gw).mono ?_;rintro e w1 ⟨c9,rfl,h9,-,R3,n3,rfl⟩;(have hpar:=h9.par);obtain⟨cid,kind,af9,cf9,ap9,cp9,par,r0,r1,r2,r3,r4,r5,r6,r7,rfl⟩:=h9.lit;simp only at hpar;rw[hpar] at QPAR;clear h9 hpar)
  | (go_at_call 34;refine(D8 _ m.plan _ (HP.o.grew gw) HPS.o).mono ?_;rintro e w1 ⟨rfl,R4,n4,rfl⟩;rw[H6.o])
  | (go_at_call 35;refine(ED _ m.offs (fun x=> !(BR x 400)) _ (HO.o.grew gw) (fun W x _ _=>Gt x W)).mono ?_;rintro e w1 ⟨rfl,R5,n5,rfl⟩;rw[H8.o])
  | fail)
 go_ret;exact⟨rfl,gw⟩
open Classical in
theorem Va(c:Dy)(m:Gr.Mf)(w:World)(h:Dl w c m)(hs:Small m.graph)(hp:∀s∈m.plan,s.nd.frm.length≤100∧s.nd.prog.length≤1000)(he:m.ents.length≤100000)(h1:(BR m.epoch 2147483647)=true)(h2:(BR m.plans 2147483647)=true)(h3:(decide (AP m.graph=0))=true)(h4:(Cf m.graph)=true)(h5:(decide ((m.out.length:Int)≤4000))=true)(h6:(VR m.plan)=true)(h7:(((m.offs.length:Int)==Be m.graph))=true)(h8:(!(m.offs.any fun x=> !(BR x 400)))=true)(h9:(Kw m.ents m.graph)=false): Calls Tryz.prog 9 #[.agg #[.int .i64 c.epoch,.int .i64 c.plans,.slice c.ao c.no c.co,.slice c.ag c.ng c.cg,.slice c.ae c.ne c.ce,.slice c.ax c.nx c.cx,.slice c.ap c.np c.cp]] w (Ac (.bool false) w):=by
 have e1:=h.epoch;have e2:=h.plans;have HG:=hY h.g;have HO:=hY h.o;have HE:=hY h.e;have HX:=hY h.x;have HP:=hY h.p;have HS:=hY hs;have HPS:=hY hp;obtain⟨ep,pl,ao,co,ag,cg,ae,ce,ax,cx,ap,cp,rfl⟩:=h.lit;simp only at e1 e2 HG HO HE HX HP;clear h hs hp;have hn1:=fun W=>Aq ep 2147483647 W
 rw[←e1,h1] at hn1;have hn2:=fun W=>Aq pl 2147483647 W
 rw[←e2,h2] at hn2;rw[e1] at hn1;rw[e2] at hn2;have HN1:=hY hn1;have HN2:=hY hn2;have hc0:AP m.graph=0:=of_decide_eq_true h3;have hrr:=CL hc0;have HC0:=hY hc0;have HID:=hY fun n (hn:n∈m.graph)=>(show 0≤n.id∧n.id≤1000 from by have:=hrr.r7 n hn;omega)
 have hgl:m.graph.length≤1000:=by have:=hrr.len;omega
 have H4:=hY h4;have ho5:=of_decide_eq_true h5;have ho6:¬(4000:Int)<(m.out.length:Int):=by omega
 clear ho5;obtain⟨src,hsrc⟩:=CK hrr;have hfi:=fun W (g:AA w W)=>DU _ m.graph 0 W (HG.o.grew g) HS.o
 rw[hsrc] at hfi;have HF:=hY hfi;have hpo:Be m.graph=src.par:=by unfold Be;rw[hsrc]
 have QPAR:((m.offs.length:Int)==src.par)=true:=by rw[←hpo];exact h7
 have H6:=hY h6;have h8b:(m.offs.any fun x=> !(BR x 400))=false:=by cases hq:(m.offs.any fun x=> !(BR x 400))<;>rw[hq] at h8<;>first|rfl|cases h8
 have H8:=hY h8b;have H9:=hY h9;clear hn1 e1 e2 h1 h2 h3 h4 h5 h6 h7 h8 h9 hn2 hc0 hfi hpo hsrc hrr h8b;show Calls Tryz.prog _ #[.agg #[.int .i64 ep,.int .i64 pl,.slice ao m.offs.length co,.slice ag m.graph.length cg,.slice ae m.ents.length ce,.slice ax m.out.length cx,.slice ap m.plan.length cp]] w _;go_enter Tryz.func9,Tryz.ntmps9
 go_wp2_with (first
  | (go_at_call 29;((with_reducible refine(HN1.o _).mono ?_);rintro e w1 ⟨rfl,rfl⟩))
  | (go_at_call 29;((with_reducible refine(HN2.o _).mono ?_);rintro e w1 ⟨rfl,rfl⟩))
  | (go_at_call 26;refine(BU _ m.graph _ (HG.o.grew gw) HS.o).mono ?_;rintro e w1 ⟨rfl,R1,n1,rfl⟩;rw[HC0.o])
  | (go_at_call 30;refine(DW _ m.graph _ (HG.o.grew gw) HID.o (by omega)).mono ?_;rintro e w1 ⟨rfl,R2,n2,rfl⟩;rw[H4.o])
  | (go_at_call 28;refine(HF.o _ gw).mono ?_;rintro e w1 ⟨c9,rfl,h9,-,R3,n3,rfl⟩;(have hpar:=h9.par);obtain⟨cid,kind,af9,cf9,ap9,cp9,par,r0,r1,r2,r3,r4,r5,r6,r7,rfl⟩:=h9.lit;simp only at hpar;rw[hpar] at QPAR;clear h9 hpar)
  | (go_at_call 34;refine(D8 _ m.plan _ (HP.o.grew gw) HPS.o).mono ?_;rintro e w1 ⟨rfl,R4,n4,rfl⟩;rw[H6.o])
  | (go_at_call 35;refine(ED _ m.offs (fun x=> !(BR x 400)) _ (HO.o.grew gw) (fun W x _ _=>Gt x W)).mono ?_;rintro e w1 ⟨rfl,R5,n5,rfl⟩;rw[H8.o])
  | (go_at_call 36;refine(I1 _ _ m.ents m.graph _ (HE.o.grew gw) (HG.o.grew gw) HS.o he).mono ?_;rintro e w1 ⟨rfl,R6,n6,rfl⟩;rw[H9.o])
  | fail)
 go_ret;exact⟨rfl,gw⟩
open Classical in
theorem TH(c:Dy)(m:Gr.Mf)(w:World)(h:Dl w c m)(hs:Small m.graph)(hp:∀s∈m.plan,s.nd.frm.length≤100∧s.nd.prog.length≤1000)(he:m.ents.length≤100000)(h1:(BR m.epoch 2147483647)=true)(h2:(BR m.plans 2147483647)=true)(h3:(decide (AP m.graph=0))=true)(h4:(Cf m.graph)=true)(h5:(decide ((m.out.length:Int)≤4000))=true)(h6:(VR m.plan)=true)(h7:(((m.offs.length:Int)==Be m.graph))=true)(h8:(!(m.offs.any fun x=> !(BR x 400)))=true)(h9:(Kw m.ents m.graph)=true)(h10:(!(m.out.any fun x=> !(DY x)))=false): Calls Tryz.prog 9 #[.agg #[.int .i64 c.epoch,.int .i64 c.plans,.slice c.ao c.no c.co,.slice c.ag c.ng c.cg,.slice c.ae c.ne c.ce,.slice c.ax c.nx c.cx,.slice c.ap c.np c.cp]] w (Ac (.bool false) w):=by
 have e1:=h.epoch;have e2:=h.plans;have HG:=hY h.g;have HO:=hY h.o;have HE:=hY h.e;have HX:=hY h.x;have HP:=hY h.p;have HS:=hY hs;have HPS:=hY hp;obtain⟨ep,pl,ao,co,ag,cg,ae,ce,ax,cx,ap,cp,rfl⟩:=h.lit;simp only at e1 e2 HG HO HE HX HP;clear h hs hp;have hn1:=fun W=>Aq ep 2147483647 W
 rw[←e1,h1] at hn1;have hn2:=fun W=>Aq pl 2147483647 W
 rw[←e2,h2] at hn2;rw[e1] at hn1;rw[e2] at hn2;have HN1:=hY hn1;have HN2:=hY hn2;have hc0:AP m.graph=0:=of_decide_eq_true h3;have hrr:=CL hc0;have HC0:=hY hc0;have HID:=hY fun n (hn:n∈m.graph)=>(show 0≤n.id∧n.id≤1000 from by have:=hrr.r7 n hn;omega)
 have hgl:m.graph.length≤1000:=by have:=hrr.len;omega
 have H4:=hY h4;have ho5:=of_decide_eq_true h5;have ho6:¬(4000:Int)<(m.out.length:Int):=by omega
 clear ho5;obtain⟨src,hsrc⟩:=CK hrr;have hfi:=fun W (g:AA w W)=>DU _ m.graph 0 W (HG.o.grew g) HS.o
 rw[hsrc] at hfi;have HF:=hY hfi;have hpo:Be m.graph=src.par:=by unfold Be;rw[hsrc]
 have QPAR:((m.offs.length:Int)==src.par)=true:=by rw[←hpo];exact h7
 have H6:=hY h6;have h8b:(m.offs.any fun x=> !(BR x 400))=false:=by cases hq:(m.offs.any fun x=> !(BR x 400))<;>rw[hq] at h8<;>first|rfl|cases h8
 have H8:=hY h8b;have h10b:(m.out.any fun x=> !(DY x))=true:=by cases hq:(m.out.any fun x=> !(DY x))<;>rw[hq] at h10<;>first|rfl|cases h10
 have H10:=hY h10b;have H9:=hY h9;clear hn1 e1 e2 h1 h2 h3 h4 h5 h6 h7 h8 h9 h10 hn2 hc0 hfi hpo hsrc hrr h8b h10b;show Calls Tryz.prog _ #[.agg #[.int .i64 ep,.int .i64 pl,.slice ao m.offs.length co,.slice ag m.graph.length cg,.slice ae m.ents.length ce,.slice ax m.out.length cx,.slice ap m.plan.length cp]] w _;go_enter Tryz.func9,Tryz.ntmps9
 go_wp2_with (first
  | (go_at_call 29;((with_reducible refine(HN1.o _).mono ?_);rintro e w1 ⟨rfl,rfl⟩))
  | (go_at_call 29;((with_reducible refine(HN2.o _).mono ?_);rintro e w1 ⟨rfl,rfl⟩))
  | (go_at_call 26;refine(BU _ m.graph _ (HG.o.grew gw) HS.o).mono ?_;rintro e w1 ⟨rfl,R1,n1,rfl⟩;rw[HC0.o])
  | (go_at_call 30;refine(DW _ m.graph _ (HG.o.grew gw) HID.o (by omega)).mono ?_;rintro e w1 ⟨rfl,R2,n2,rfl⟩;rw[H4.o])
  | (go_at_call 28;refine(HF.o _ gw).mono ?_;rintro e w1 ⟨c9,rfl,h9,-,R3,n3,rfl⟩;(have hpar:=h9.par);obtain⟨cid,kind,af9,cf9,ap9,cp9,par,r0,r1,r2,r3,r4,r5,r6,r7,rfl⟩:=h9.lit;simp only at hpar;rw[hpar] at QPAR;clear h9 hpar)
  | (go_at_call 34;refine(D8 _ m.plan _ (HP.o.grew gw) HPS.o).mono ?_;rintro e w1 ⟨rfl,R4,n4,rfl⟩;rw[H6.o])
  | (go_at_call 35;refine(ED _ m.offs (fun x=> !(BR x 400)) _ (HO.o.grew gw) (fun W x _ _=>Gt x W)).mono ?_;rintro e w1 ⟨rfl,R5,n5,rfl⟩;rw[H8.o])
  | (go_at_call 36;refine(I1 _ _ m.ents m.graph _ (HE.o.grew gw) (HG.o.grew gw) HS.o he).mono ?_;rintro e w1 ⟨rfl,R6,n6,rfl⟩;rw[H9.o])
  | (go_at_call 37;refine(IP _ m.out (fun x=> !(DY x)) _ (HX.o.grew gw) (fun W x _ _=>NV x W)).mono ?_;rintro e w1 ⟨rfl,R7,n7,rfl⟩;rw[H10.o])
  | fail)
 go_ret;exact⟨rfl,gw⟩
open Classical in
theorem TI(c:Dy)(m:Gr.Mf)(w:World)(h:Dl w c m)(hs:Small m.graph)(hp:∀s∈m.plan,s.nd.frm.length≤100∧s.nd.prog.length≤1000)(he:m.ents.length≤100000)(h1:(BR m.epoch 2147483647)=true)(h2:(BR m.plans 2147483647)=true)(h3:(decide (AP m.graph=0))=true)(h4:(Cf m.graph)=true)(h5:(decide ((m.out.length:Int)≤4000))=true)(h6:(VR m.plan)=true)(h7:(((m.offs.length:Int)==Be m.graph))=true)(h8:(!(m.offs.any fun x=> !(BR x 400)))=true)(h9:(Kw m.ents m.graph)=true)(h10:(!(m.out.any fun x=> !(DY x)))=true): Calls Tryz.prog 9 #[.agg #[.int .i64 c.epoch,.int .i64 c.plans,.slice c.ao c.no c.co,.slice c.ag c.ng c.cg,.slice c.ae c.ne c.ce,.slice c.ax c.nx c.cx,.slice c.ap c.np c.cp]] w (Ac (.bool true) w):=by
 have e1:=h.epoch;have e2:=h.plans;have HG:=hY h.g;have HO:=hY h.o;have HE:=hY h.e;have HX:=hY h.x;have HP:=hY h.p;have HS:=hY hs;have HPS:=hY hp;obtain⟨ep,pl,ao,co,ag,cg,ae,ce,ax,cx,ap,cp,rfl⟩:=h.lit;simp only at e1 e2 HG HO HE HX HP;clear h hs hp;have hn1:=fun W=>Aq ep 2147483647 W
 rw[←e1,h1] at hn1;have hn2:=fun W=>Aq pl 2147483647 W
 rw[←e2,h2] at hn2;rw[e1] at hn1;rw[e2] at hn2;have HN1:=hY hn1;have HN2:=hY hn2;have hc0:AP m.graph=0:=of_decide_eq_true h3;have hrr:=CL hc0;have HC0:=hY hc0;have HID:=hY fun n (hn:n∈m.graph)=>(show 0≤n.id∧n.id≤1000 from by have:=hrr.r7 n hn;omega)
 have hgl:m.graph.length≤1000:=by have:=hrr.len;omega
 have H4:=hY h4;have ho5:=of_decide_eq_true h5;have ho6:¬(4000:Int)<(m.out.length:Int):=by omega
 clear ho5;obtain⟨src,hsrc⟩:=CK hrr;have hfi:=fun W (g:AA w W)=>DU _ m.graph 0 W (HG.o.grew g) HS.o
 rw[hsrc] at hfi;have HF:=hY hfi;have hpo:Be m.graph=src.par:=by unfold Be;rw[hsrc]
 have QPAR:((m.offs.length:Int)==src.par)=true:=by rw[←hpo];exact h7
 have H6:=hY h6;have h8b:(m.offs.any fun x=> !(BR x 400))=false:=by cases hq:(m.offs.any fun x=> !(BR x 400))<;>rw[hq] at h8<;>first|rfl|cases h8
 have H8:=hY h8b;have h10b:(m.out.any fun x=> !(DY x))=false:=by cases hq:(m.out.any fun x=> !(DY x))<;>rw[hq] at h10<;>first|rfl|cases h10
 have H10:=hY h10b;have H9:=hY h9;clear hn1 e1 e2 h1 h2 h3 h4 h5 h6 h7 h8 h9 h10 hn2 hc0 hfi hpo hsrc hrr h8b h10b;show Calls Tryz.prog _ #[.agg #[.int .i64 ep,.int .i64 pl,.slice ao m.offs.length co,.slice ag m.graph.length cg,.slice ae m.ents.length ce,.slice ax m.out.length cx,.slice ap m.plan.length cp]] w _;go_enter Tryz.func9,Tryz.ntmps9
 go_wp2_with (first
  | (go_at_call 29;((with_reducible refine(HN1.o _).mono ?_);rintro e w1 ⟨rfl,rfl⟩))
  | (go_at_call 29;((with_reducible refine(HN2.o _).mono ?_);rintro e w1 ⟨rfl,rfl⟩))
  | (go_at_call 26;refine(BU _ m.graph _ (HG.o.grew gw) HS.o).mono ?_;rintro e w1 ⟨rfl,R1,n1,rfl⟩;rw[HC0.o])
  | (go_at_call 30;refine(DW _ m.graph _ (HG.o.grew gw) HID.o (by omega)).mono ?_;rintro e w1 ⟨rfl,R2,n2,rfl⟩;rw[H4.o])
  | (go_at_call 28;refine(HF.o _ gw).mono ?_;rintro e w1 ⟨c9,rfl,h9,-,R3,n3,rfl⟩;(have hpar:=h9.par);obtain⟨cid,kind,af9,cf9,ap9,cp9,par,r0,r1,r2,r3,r4,r5,r6,r7,rfl⟩:=h9.lit;simp only at hpar;rw[hpar] at QPAR;clear h9 hpar)
  | (go_at_call 34;refine(D8 _ m.plan _ (HP.o.grew gw) HPS.o).mono ?_;rintro e w1 ⟨rfl,R4,n4,rfl⟩;rw[H6.o])
  | (go_at_call 35;refine(ED _ m.offs (fun x=> !(BR x 400)) _ (HO.o.grew gw) (fun W x _ _=>Gt x W)).mono ?_;rintro e w1 ⟨rfl,R5,n5,rfl⟩;rw[H8.o])
  | (go_at_call 36;refine(I1 _ _ m.ents m.graph _ (HE.o.grew gw) (HG.o.grew gw) HS.o he).mono ?_;rintro e w1 ⟨rfl,R6,n6,rfl⟩;rw[H9.o])
  | (go_at_call 37;refine(IP _ m.out (fun x=> !(DY x)) _ (HX.o.grew gw) (fun W x _ _=>NV x W)).mono ?_;rintro e w1 ⟨rfl,R7,n7,rfl⟩;rw[H10.o])
  | fail)
 go_ret;exact⟨rfl,gw⟩
open Classical in
theorem Ka(c:Dy)(m:Gr.Mf)(w:World)(h:Dl w c m)(hs:Small m.graph)(hp:∀s∈m.plan,s.nd.frm.length≤100∧s.nd.prog.length≤1000)(he:m.ents.length≤100000): Calls Tryz.prog 9 #[.agg #[.int .i64 c.epoch,.int .i64 c.plans,.slice c.ao c.no c.co,.slice c.ag c.ng c.cg,.slice c.ae c.ne c.ce,.slice c.ax c.nx c.cx,.slice c.ap c.np c.cp]] w (Ac (.bool (BS m)) w):=by
 cases h1:(BR m.epoch 2147483647)
 ·have hr:BS m=false:=by unfold BS;rw[h1];rfl
  rw[hr];exact VS c m w h hs hp he h1
 cases h2:(BR m.plans 2147483647)
 ·have hr:BS m=false:=by unfold BS;rw[h1,h2];rfl
  rw[hr];exact VT c m w h hs hp he h1 h2
 cases h3:(decide (AP m.graph=0))
 ·have hr:BS m=false:=by unfold BS;rw[h1,h2,h3];rfl
  rw[hr];exact VU c m w h hs hp he h1 h2 h3
 cases h4:(Cf m.graph)
 ·have hr:BS m=false:=by unfold BS;rw[h1,h2,h3,h4];rfl
  rw[hr];exact VV c m w h hs hp he h1 h2 h3 h4
 cases h5:(decide ((m.out.length:Int)≤4000))
 ·have hr:BS m=false:=by unfold BS;rw[h1,h2,h3,h4,h5];rfl
  rw[hr];exact VW c m w h hs hp he h1 h2 h3 h4 h5
 cases h6:(VR m.plan)
 ·have hr:BS m=false:=by unfold BS;rw[h1,h2,h3,h4,h5,h6];rfl
  rw[hr];exact VX c m w h hs hp he h1 h2 h3 h4 h5 h6
 cases h7:(((m.offs.length:Int)==Be m.graph))
 ·have hr:BS m=false:=by unfold BS;rw[h1,h2,h3,h4,h5,h6,h7];rfl
  rw[hr];exact VY c m w h hs hp he h1 h2 h3 h4 h5 h6 h7
 cases h8:(!(m.offs.any fun x=> !(BR x 400)))
 ·have hr:BS m=false:=by unfold BS;rw[h1,h2,h3,h4,h5,h6,h7,h8];rfl
  rw[hr];exact VZ c m w h hs hp he h1 h2 h3 h4 h5 h6 h7 h8
 cases h9:(Kw m.ents m.graph)
 ·have hr:BS m=false:=by unfold BS;rw[h1,h2,h3,h4,h5,h6,h7,h8,h9];rfl
  rw[hr];exact Va c m w h hs hp he h1 h2 h3 h4 h5 h6 h7 h8 h9
 cases h10:(!(m.out.any fun x=> !(DY x)))
 ·have hr:BS m=false:=by unfold BS;rw[h1,h2,h3,h4,h5,h6,h7,h8,h9,h10];rfl
  rw[hr];exact TH c m w h hs hp he h1 h2 h3 h4 h5 h6 h7 h8 h9 h10
 have hr:BS m=true:=by unfold BS;rw[h1,h2,h3,h4,h5,h6,h7,h8,h9,h10];rfl
 rw[hr];exact TI c m w h hs hp he h1 h2 h3 h4 h5 h6 h7 h8 h9 h10
def A3i(l:List Tab.En): List Tab.En:=l.mergeSort fun a b=>decide (Tab.num a≤Tab.num b)
theorem P7(l:List Tab.En): (A3i l).Perm l:=List.mergeSort_perm l _
theorem MO(l:List Tab.En): (A3i l).Pairwise fun a b=>Tab.num a≤Tab.num b:=by
 have:=List.pairwise_mergeSort (le:=fun a b:Tab.En=>decide (Tab.num a≤Tab.num b)) (fun a b c h1 h2=>by simp at *;omega) (fun a b=>by simp;omega) l;exact this.imp fun h=>by simpa using h
theorem Mr{g:List Gr.Nd}{x:Tab.En}: Fp g x=false↔∃n,Gr.nodeOf g x.node=some n∧n.kind=1:=by
 unfold Fp
 cases h:Gr.nodeOf g x.node with
 | none=>simp
 |some n =>
  simp only[Option.some.injEq];constructor
  ·intro hk;exact⟨n,rfl,by simpa using hk⟩
  ·rintro⟨m,rfl,hk⟩;simp[hk]
theorem JJ{x:Gr.Ln}: DY x=true↔(0≤x.sink∧x.sink≤7)∧(0≤x.frm∧x.frm≤7)∧(0≤x.key∧x.key<64)∧Ao x.v=true:=by
 unfold DY;simp only[Bool.and_eq_true,DX];constructor
 ·rintro⟨h1,h2,h3,h4⟩;exact⟨h1,h2,⟨h3.1,by omega⟩,h4⟩
 ·rintro⟨h1,h2,h3,h4⟩;exact⟨h1,h2,⟨h3.1,by omega⟩,h4⟩
theorem Ih{x:Tab.En}: EA x=true↔(0≤x.node∧x.node<8)∧(0≤x.key∧x.key<64)∧Ao x.c0=true∧Ao x.c1=true:=by
 unfold EA;rw[Bool.and_eq_true,Bool.and_eq_true,EQ];unfold CF;exact⟨fun⟨⟨a,b⟩,c,d⟩=>⟨a,b,c,d⟩,fun⟨a,b,c,d⟩=>⟨⟨a,b⟩,c,d⟩⟩
theorem XI{α:Type}{l:List α}{p:α→Bool}: (!(l.any fun x=> !(p x)))=true↔∀x∈l,p x=true:=by
 rw[Bool.not_eq_true',List.any_eq_false];constructor
 ·intro h x hx;have:=h x hx;simpa using this
 ·intro h x hx;rw[h x hx];simp
open Classical in
theorem A0i{l:List Tab.En}{g:List Gr.Nd}: Kw l g=true↔(∀x∈l,EA x=true)∧((l.Pairwise fun a b=>Tab.num a<Tab.num b)∧∀x∈l,Tab.nz x=true)∧∀x∈l,Fp g x=false:=by
 unfold Kw CG;rw[Bool.and_eq_true,Bool.and_eq_true,List.all_eq_true,decide_eq_true_eq,Bool.not_eq_true',List.any_eq_false];refine⟨fun⟨h1,h2,h3⟩=>⟨h1,h2,fun x hx=>?_⟩,fun⟨h1,h2,h3⟩=>⟨h1,h2,fun x hx=>?_⟩⟩
 ·have:=h3 x hx;simpa using this
 ·rw[h3 x hx];simp
open Classical in
theorem A2I{p:List Gr.Stp}: VR p=true↔p=[]∨(Gr.OkPl BF p∧p.map Gr.cleanS=p):=by unfold VR;rw[decide_eq_true_eq]
theorem MP{l:List Gr.Nd}: Cf l=true↔Gr.sortedG l:=by unfold Cf Gr.sortedG;rw[decide_eq_true_eq]
open Classical in
theorem Gu{m:Gr.Mf}: BS m=true↔Gr.RightM BF m:=by
 rw[←Gr.rightM_iff (s:=A3i (Tab.newT m.ents)) (P7 _) (MO _)];have hal:=Tab.all_iff (P7 (Tab.newT m.ents)) (MO _);unfold BS;rw[Bool.and_eq_true,Bool.and_eq_true,Bool.and_eq_true,Bool.and_eq_true,Bool.and_eq_true,Bool.and_eq_true,Bool.and_eq_true,Bool.and_eq_true,Bool.and_eq_true,DX,DX,decide_eq_true_eq,decide_eq_true_eq,A2I,XI,A0i,XI,beq_iff_eq];constructor
 ·rintro⟨h1,h2,h3,h4,h5,h6,h7,h8,⟨h9,h10,h11⟩,h12⟩;have hr:=CL h3;obtain⟨src,hsrc⟩:=CK hr;have hal2:=hal.2 h10;refine⟨h1,h2,hr,?_,by omega,h6,⟨src,hsrc,?_⟩,fun x hx=>DX.1 (h8 x hx),fun x hx=>Ih.1 (h9 x hx),hal2,fun x hx=>Mr.1 (h11 x (by rw[←hal2];exact hx)),fun x hx=>JJ.1 (h12 x hx)⟩
  ·exact MP.1 h4
  ·rw[h7];unfold Be;rw[hsrc]
 ·intro h;refine⟨h.ep,h.pl,GK h.gr.len h.gr,?_,by have:=h.ol;omega,h.pn,?_,fun x hx=>DX.2 (h.o4 x hx),⟨fun x hx=>Ih.2 (h.en x hx),hal.1 h.al,fun x hx=>Mr.2 (h.ft x (by rw[h.al];exact hx))⟩,fun x hx=>JJ.2 (h.ou x hx)⟩
  ·exact MP.2 h.so
  ·obtain⟨n,hn,e⟩:=h.of;rw[e];unfold Be;rw[hn]
def J7(g:List Gr.Nd): Gr.Mf:=⟨0,0,List.replicate (Be g).toNat 0,Gr.normG g,[],[],[]⟩
theorem Me{g:List Gr.Nd}(h:Gr.RightR g): 1≤Be g∧Be g≤3:=by
 obtain⟨n,hn⟩:=CK h;unfold Be;rw[hn];exact(DN h n (Gr.nodeOf_some hn).1).1
theorem UM{g:List Gr.Nd}(h:Gr.RightR g): BS (J7 g)=true:=by
 refine Gu.2 ?_;have hn:=OI h;have hs:=Gr.normG_sorted g;have hno:∀{α:Type} {p:α→Prop},∀x∈([]:List α),p x:=fun x hx=>by cases hx
 refine { ep:=⟨Int.le_refl _,?_⟩,pl:=⟨Int.le_refl _,?_⟩,gr:=hn,so:=hs,of:=?_,o4:=?_,en:=hno,ei:=List.Pairwise.nil,ek:=hno,ol:=Nat.zero_le _,ou:=hno,pn:=.inl rfl }
 ·show(0:Int)≤2147483647;decide
 ·show(0:Int)≤2147483647;decide
 ·obtain⟨n,h1⟩:=CK hn;refine⟨n,?_,?_⟩
  ·show(Gr.normG g).head? = some n;rw[←Gr.head_source hn hs];exact h1
  ·have hp:=Me h;show((List.replicate (Be g).toNat (0:Int)).length:Int)=n.par;rw[List.length_replicate]
   have:Be g=n.par:=by
    unfold Be;rw[←UL h,h1]
   omega
 ·intro x hx;obtain⟨-,rfl⟩:=List.mem_replicate.1 hx;omega
def ZL(w:World)(g:List Gr.Nd)(e:Ending)(w':World): Prop :=
 (Gr.RightR g→∃ao co ag cg,e = .returned (.tuple #[.agg #[.int .i64 0,.int .i64 0,.slice ao (Be g).toNat co,.slice ag (Gr.normG g).length cg,.slice none 0 0,.slice none 0 0,.slice none 0 0],.int .i64 0])∧BO w' (.slice ao (Be g).toNat co) (List.replicate (Be g).toNat 0)∧AV w' (.slice ag (Gr.normG g).length cg) (Gr.normG g)) ∧
 (¬Gr.RightR g→e = .returned (.tuple #[.agg #[.int .i64 0,.int .i64 0,.slice none 0 0,.slice none 0 0,.slice none 0 0,.slice none 0 0,.slice none 0 0],.int .i64 10]))∧AA w w'
def I7(base p:Nat)(v:Value)(w:World): Prop:=∃b:Nat,v = .slice (some ⟨b,0,none⟩) p p∧base≤b∧w.heap[b]? = some (.cells (Array.replicate p (.int .i64 0)) 3)
theorem I7.st(base p:Nat): ∀v w w',I7 base p v w→AA w w'→I7 base p v w':=fun _ _ _ ⟨b,h1,h2,h3⟩ g=>⟨b,h1,h2,AC g h3⟩
theorem I7.ints{base p:Nat}{v:Value}{w:World}(h:I7 base p v w)(hp:p≤100): BO w v (List.replicate p 0):=by
 obtain⟨b,rfl,-,h3⟩:=h;refine⟨_,p,by simp,by simp[maxLen];omega,fun _=>⟨b,0,rfl,fun i x hi j u hu=>?_⟩⟩;rw[cell_of h3];rw[List.getElem?_replicate] at hi;split at hi
 ·cases hi
  match j,hu with
  |0,hu =>
   simp at hu;subst hu;rw[show 0+i*1+0=i by omega,Array.getElem?_replicate,if_pos ‹_›]
 ·cases hi
def Ha(base p:Nat)(g:List Gr.Nd)(v:Value)(w:World): Prop:=∃(b:Nat) (ag:Option Addr) (cg:Nat),v = .agg #[.int .i64 0,.int .i64 0,.slice (some ⟨b,0,none⟩) p p,.slice ag g.length cg,.slice none 0 0,.slice none 0 0,.slice none 0 0]∧I7 base p (.slice (some ⟨b,0,none⟩) p p) w∧Br base g (.slice ag g.length cg) w
theorem Ha.st(base p:Nat)(g:List Gr.Nd): ∀v w w',Ha base p g v w→AA w w'→Ha base p g v w':=fun _ _ _ ⟨b,a,c,h1,h2,h3⟩ q=>⟨b,a,c,h1,I7.st _ _ _ _ _ h2 q,Br.st _ _ _ _ _ h3 q⟩
theorem Ha.keep{base p:Nat}{g:List Gr.Nd}{b:Nat}{ag:Option Addr}{cg:Nat}{w w':World}(h:I7 base p (.slice (some ⟨b,0,none⟩) p p) w∧Br base g (.slice ag g.length cg) w)(hk:∀b,base≤b→b<w.heap.size→w'.heap[b]? = w.heap[b]?)(hp:p≤100): BO w' (.slice (some ⟨b,0,none⟩) p p) (List.replicate p 0)∧AV w' (.slice ag g.length cg) g:=by
 refine⟨?_,(h.2.keep hk).at'⟩;obtain⟨⟨b',h1,h2,h3⟩,-⟩:=h;cases h1;exact I7.ints ⟨b,rfl,h2,by rw[hk b h2 (AB h3)];exact h3⟩ hp
def Ay(r:Nat)(W W':World): Prop:=W.heap.size=W'.heap.size∧∀b,b≠r→W'.heap[b]? = W.heap[b]?
theorem Ay.mk(w:World)(o o':Obj): Ay w.heap.size (w.alloc o) (w.alloc o'):=by
 refine⟨by simp[World.size_alloc],fun b hb=>?_⟩;show(w.heap.push o')[b]? = (w.heap.push o)[b]?;rw[Array.getElem?_push,Array.getElem?_push,if_neg hb,if_neg hb]
theorem Ay.more{r:Nat}{W W':World}(h:Ay r W W')(R:Array Obj)(n:Nat): Ay r (W.more R n) (W'.more R n):=by
 refine⟨by simp[World.more_size,h.1],fun b hb=>?_⟩;rcases Nat.lt_or_ge b W.heap.size with q|q
 ·rw[World.heap_more R n b q,World.heap_more R n b (by rw[←h.1];exact q)];exact h.2 b hb
 ·exact Bc h.1 R n b q
theorem Ay.alloc{r:Nat}{W W':World}(h:Ay r W W')(o:Obj): Ay r (W.alloc o) (W'.alloc o):=by
 refine⟨by simp[World.size_alloc,h.1],fun b hb=>?_⟩;show(W'.heap.push o)[b]? = (W.heap.push o)[b]?;rw[Array.getElem?_push,Array.getElem?_push,h.1];split
 ·rfl
 ·exact h.2 b hb
theorem Ay.drewl{r:Nat}{W W':World}(h:Ay r W W'): Ay r W.drew W':=h
theorem Ay.at{r:Nat}{W W':World}(h:Ay r W W')(b:Nat)(hb:b≠r): W'.heap[b]? = W.heap[b]? :=h.2 b hb
theorem A1P:(Tryz.prog.info? 3).map (fun i=>(i.zero,i.size,i.bytes))=some (some (.int .i64 0),1,8):=by kernel_rfl
theorem ZM(p:Nat)(hp3:p=1∨p=2∨p=3)(W:World): (Instr.makeSlice 40 (.int .i64 (p:Int)) (.int .i64 (p:Int))).run Tryz.prog W = .ok (.slice (some ⟨W.heap.size,0,none⟩) p p) (W.alloc (.cells (Array.replicate p (.int .i64 0)) 3)):=by
 obtain⟨i,hi,hz0,hz1,hz2⟩:=info_parts A1P;have h:=run_makeSlice (P:=Tryz.prog) W 40 3 i (.int .i64 0) Tryz.underlying40 hi hz0 .i64 .i64 (p:Int) (p:Int) (by omega) (by omega) (by rw[hz1];omega) (by rw[hz2];omega) (by omega);rw[h,hz1]
 have hm:∀q:Nat,q=1∨q=2∨q=3→madeCells (Value.int .i64 0).cells ((q:Int).toNat*1)=Array.replicate q (Value.int .i64 0):=fun q hq=>by
  rcases hq with rfl|rfl|rfl<;>kernel_rfl
 rw[hm p hp3,Int.toNat_natCast]
theorem ZN(v:Value)(g:List Gr.Nd)(w:World)(hv:AV w v g)(hs:Small g): Calls Tryz.prog 8 #[v] w (ZL w g):=by
 have HC:=hY fun W (q:AA w W)=>BU v g W (hv.grew q) hs
 by_cases hr:Gr.RightR g
 case neg =>
  refine Calls.mono (R:=Ac (.tuple #[.agg #[.int .i64 0,.int .i64 0,.slice none 0 0,.slice none 0 0,.slice none 0 0,.slice none 0 0,.slice none 0 0],.int .i64 10]) w) ?_ fun e w' h=>⟨fun q=>absurd q hr,fun _=>h.1,h.2⟩
  have hck:=J5 hr;generalize AP g=ck at *;obtain⟨a,cap,rfl,hm,-⟩:=hv.openC;clear hv hs hr;go_enter Tryz.func8,Tryz.ntmps8
  go_wp2_with (go_at_call 26;refine(HC.o _ gw).mono ?_;rintro e w1 ⟨rfl,R1,n1,rfl⟩)
  refine bodyPost_ret (v:=.tuple #[.agg #[.int .i64 0,.int .i64 0,.slice none 0 0,.slice none 0 0,.slice none 0 0,.slice none 0 0,.slice none 0 0],.int .i64 10]) (by simp[results,Tryz.results8,go_sem]) rfl ?_;refine⟨rfl,?_⟩
  repeat (first|with_reducible exact AA.refl _|apply AA.more|apply AA.alloc|refine AA.set ?_ (Nat.le_refl _) _)
 have hck:=J6 hr;rw[hck] at HC;have hpr:=Me hr;obtain⟨src,hsrc⟩:=CK hr;have hpo:Be g=src.par:=by unfold Be;rw[hsrc]
 have HF:=hY fun W (q:AA w W)=>DU v g 0 W (hv.grew q) hs
 rw[hsrc] at HF;have HN:=hY fun W (q:AA w W)=>Lj v g W (hv.grew q) hs hr
 obtain⟨p,hp⟩:∃p:Nat,src.par=(p:Int):=⟨src.par.toNat,by omega⟩;have hp3:p=1∨p=2∨p=3:=by omega
 have hpn:(Be g).toNat=p:=by omega
 have HPN:=hY hpn;have hmk:=ZM p hp3;have HSP:=hY hp;have HP3:=hY hp3;have hp1:1≤p:=by omega
 have hp9:p≤3:=by omega
 obtain⟨a,cap,rfl,hm,-⟩:=hv.openC;refine Calls.mono (R:=fun e w'=>∃ao co ag cg,e = .returned (.tuple #[.agg #[.int .i64 0,.int .i64 0,.slice ao (Be g).toNat co,.slice ag (Gr.normG g).length cg,.slice none 0 0,.slice none 0 0,.slice none 0 0],.int .i64 0])∧BO w' (.slice ao (Be g).toNat co) (List.replicate (Be g).toNat 0)∧AV w' (.slice ag (Gr.normG g).length cg) (Gr.normG g)∧AA w w') ?_ fun e w' ⟨ao,co,ag,cg,h1,h2,h3,h4⟩=>⟨fun _=>⟨ao,co,ag,cg,h1,h2,h3⟩,fun q=>absurd hr q,h4⟩
 clear hv hs hr hck hpr hsrc hpo hpn hp hp3;rw[HPN.o];go_enter Tryz.func8,Tryz.ntmps8
 go_wp2_with (first
  | (go_at_call 26;refine(HC.o _ gw).mono ?_;rintro e w1 ⟨rfl,R1,n1,rfl⟩)
  | (go_at_call 28;refine(HF.o _ gw).mono ?_;rintro e w2 ⟨c9,rfl,hc9,-,R2,n2,rfl⟩;(have hcp:=hc9.par);rw[HSP.o] at hcp;(have HCP:=hY hcp);clear hc9 hcp))
 rw[←HCP.o];refine AY 6 Tryz.mixed (by kernel_rfl) (by kernel_rfl) ?_
 iterate 2
  apply Ch.val
  focus
   rintro w1 u ⟨R1,n1,rfl⟩ hF;simp[AR,AU.more,Oper.deps,Region.binds,List.filter_cons,World.more_drew] at hF;simp[AL,Oper.deps,Region.binds,List.filter_cons,Region.dstOf,AU.at,Act.put,World.more_drew];go_wp2;exact⟨gw,rfl,_,_,rfl,rfl,rfl⟩
 apply Ch.of (I7 (w.heap.size+1) p) (I7.st _ p)
 focus
  rintro w1 u ⟨R1,n1,rfl⟩ hF;simp[AR,AU.more,Oper.deps,Region.binds,List.filter_cons,World.more_drew] at hF;simp[AL,Oper.deps,Region.binds,List.filter_cons,Region.dstOf,AU.at,Act.put,World.more_drew]
  go_wp2_with fail
  exact⟨gw,rfl,_,_,rfl,rfl,⟨_,rfl,by first|omega|(simp[go_sem];omega),AO _ _ _ (by first|rfl|simp[go_sem]|(simp[go_sem];omega))⟩⟩
 iterate 1
  apply Ch.val
  focus
   rintro w1 u ⟨R1,n1,rfl⟩ hF;simp[AR,AU.more,Oper.deps,Region.binds,List.filter_cons,World.more_drew] at hF;simp[AL,Oper.deps,Region.binds,List.filter_cons,Region.dstOf,AU.at,Act.put,World.more_drew];go_wp2;exact⟨gw,rfl,_,_,rfl,rfl,rfl⟩
 apply Ch.of (Br (w.heap.size+1) (Gr.normG g)) (Br.st _ _)
 focus
  rintro w1 u ⟨R1,n1,rfl⟩ hF;simp[AR,AU.more,Oper.deps,Region.binds,List.filter_cons,World.more_drew] at hF;simp[AL,Oper.deps,Region.binds,List.filter_cons,Region.dstOf,AU.at,Act.put,World.more_drew]
  go_wp2_with (first
   | (go_at_call 27;go_loud (refine(HN.o _ gw).mono ?_);rintro e w3 ⟨v3,lc3,rfl,hv3,hi3,R3,n3,rfl⟩;obtain⟨a3,c3,hv9,-,-⟩:=(hi3.at hv3).openC;subst hv9;(have HV3:Hid (Br _ (Gr.normG g) _ _):=hY ⟨a3,c3,lc3,rfl,hv3,hi3⟩);clear hv3 hi3)
   )
  exact⟨gw,rfl,_,_,rfl,rfl,Br.low HV3.o (by simp[go_sem];omega)⟩
 apply Ch.of (Ha (w.heap.size+1) p (Gr.normG g)) (Ha.st _ _ _)
 focus
  rintro w1 u ⟨R1,n1,rfl⟩ hF;simp[AR,AU.more,Oper.deps,Region.binds,List.filter_cons,World.more_drew] at hF;simp[AL,Oper.deps,Region.binds,List.filter_cons,Region.dstOf,AU.at,Act.put,World.more_drew];obtain⟨⟨b2,hu2,h2⟩,a4,c4,lc4,hu4,h4⟩:=hF;rw[hu2,hu4];(have H2:=hY h2);(have H4:=hY h4);clear h2 h4;go_wp2;exact⟨gw,rfl,_,_,rfl,rfl,⟨_,_,_,rfl,⟨_,rfl,H2.o⟩,⟨_,_,_,rfl,by rw[←hu4];exact H4.o⟩⟩⟩
 rintro u w1 ⟨R4,n4,rfl⟩ hF;simp[AR,AU.more,DD,AU.isNew,List.range_succ] at hF;simp[AL,Region.dstOf,AU.at,Act.put,List.range_succ,World.more_drew];obtain⟨-,-,b9,ag9,cg9,hu9,h9⟩:=hF;rw[hu9];have H9:=hY h9;clear h9
 go_wp2_with fail
 refine bodyPost_ret (v:=.tuple #[.agg #[.int .i64 0,.int .i64 0,.slice (some ⟨b9,0,none⟩) p p,.slice ag9 (Gr.normG g).length cg9,.slice none 0 0,.slice none 0 0,.slice none 0 0],.int .i64 0]) (by simp[results,Tryz.results8,go_sem]) rfl ?_;refine⟨_,_,_,_,rfl,?_⟩;rw[←and_assoc];refine⟨Ha.keep H9.o (fun b hb _=>Ay.at (r:=w.heap.size) ?_ b (by omega)) (by omega),gw⟩
 repeat (first|with_reducible exact Ay.mk _ _ _|with_reducible apply Ay.more|with_reducible apply Ay.alloc|with_reducible apply Ay.drewl)
theorem Ms:(Tryz.prog.info? 92).map (fun i=>(i.zero,i.size,i.bytes))=some (some (.agg #[.int .i64 0,.int .i64 0,.int .i64 0,.int .i64 0,.int .i64 0]),5,40):=by kernel_rfl
theorem A1Q:(Tryz.prog.info? 3).map (fun i=>(i.zero,i.size,i.bytes))=some (some (.int .i64 0),1,8):=by kernel_rfl
def A1R(w:World)(ep:Int)(os:List Int)(xs:List Gr.Ln)(es:List Tab.En)(e:Ending)(w':World): Prop:=∃(ao:Option Addr) (co:Nat) (ax:Option Addr) (cx:Nat) (tv:Value) (code:Int),
 e = .returned (.tuple #[.agg #[.int .i64 ep,.int .i64 0,.slice ao os.length co,.slice none 0 0,.slice none 0 0,.slice ax xs.length cx,.slice none 0 0],tv,.int .i64 code]) ∧
 OwnAt w.heap.size 3 1 Cx w' (.slice ao os.length co) os∧OwnAt w.heap.size 92 5 Dp w' (.slice ax xs.length cx) xs∧AA w w' ∧
 ((CG es=true∧code=0∧∃t b,tv = .pointer (some ⟨t,0,none⟩)∧Au w' t b es.length (Tab.newT es)∧w.heap.size≤t∧w.heap.size≤b)∨(CG es=false∧code=1∧tv = .pointer none))
theorem WM{W:World}{x b n:Nat}{g:List Gr.Nd}{ep:Int}{m:List (Ca×CV)}(h:BN W x b n g ep m): ∀t∈Af g,Kz t:=fun t ht=>by
 obtain⟨y,hy,h1,h2,h3⟩:=I8.1 ht;have h4:=h.right.r7 y hy;have h5:=He h y hy;unfold Kz;omega
theorem DI{α β:Type}{q:α→List β}{n:Nat}: ∀{l:List α},(∀x∈l,(q x).length≤n)→(l.flatMap q).length≤l.length*n
 | [],_=>by simp
 |x::l,h=>by
  have h1:=DI (l:=l) fun y hy=>h y (List.mem_cons_of_mem _ hy)
  have h2:=h x (List.mem_cons_self ..);rw[List.flatMap_cons,List.length_append,List.length_cons,Nat.add_one_mul];omega
theorem Lp{α β:Type}{q:α→List β}(l:List α)(x:α): (l++[x]).flatMap q=l.flatMap q++q x:=by
 rw[List.flatMap_append,List.flatMap_cons,List.flatMap_nil,List.append_nil]
theorem Ay.refl(r:Nat)(W:World): Ay r W W:=⟨rfl,fun _ _=>rfl⟩
theorem Ay.setr{r:Nat}{W W':World}(h:Ay r W W')(o:Nat)(v:Value): Ay r W (W'.setCell ⟨r,o,none⟩ v) :=
 ⟨by rw[World.size_setCell];exact h.1,fun b hb=>(AQ (fun e=>hb e.symm)).trans (h.2 b hb)⟩
theorem UN{w wa W1 W':World}{B:Nat}{ep:Int}{ao ax:Option Addr}{co cx:Nat}{vE:Value}{os:List Int}{xs:List Gr.Ln}{es:List Tab.En}{vT:Value}{T:List Ca}(h:JU w wa B ep (.slice ao os.length co) (.slice ax xs.length cx) vE os xs es vT T)(g:AA wa W1)(hsb:Ay w.heap.size W1 W'):
  OwnAt w.heap.size 3 1 Cx W' (.slice ao os.length co) os∧OwnAt w.heap.size 92 5 Dp W' (.slice ax xs.length cx) xs:=by
 have h1:=h.grew g;refine⟨OwnAt.same h1.o fun b hb=>hsb.2 b fun e=>?_,OwnAt.same h1.x fun b hb=>hsb.2 b fun e=>?_⟩
 ·exact OwnAt.other h1.o h1.z (by decide) (e▸hb)
 ·exact OwnAt.other h1.x h1.z (by decide) (e▸hb)
theorem Au.sb{W W':World}{t b n r:Nat}{m:List Tab.En}(h:Au W t b n m)(hsb:Ay r W W')(ht:t≠r)(hb:b≠r): Au W' t b n m :=
 ⟨by rw[hsb.2 t ht];exact h.1,h.2.same (hsb.2 b hb)⟩
theorem Rh(x b n:Nat)(g:List Gr.Nd)(ep:Int)(m:List (Ca×CV))(f:Ca→Fq)(w:World)(h:BN w x b n g ep m)(hf:DF w g m f): Calls Tryz.prog 38 #[.pointer (some ⟨x,0,none⟩)] w (A1R w ep (Hw g f (Af g)) (Ll g f (Af g)) (Lm g f (Af g))):=by
 have HH:=hY h;unfold DF at hf;have HF:=hY hf;have HWH:=hY (WM h);obtain⟨v,hx,hv⟩:=h.cells;have hgp:=He h;have htl:=De g fun y hy=>(hgp y hy).2
 have hl8:=h.len;have HALL:=hY fun W (q:AA w W)=>Mg v g W (hv.grew q) h.small h.len h.so fun y hy=>by have:=hgp y hy;omega
 have HFI:=hY fun id W (q:AA w W)=>DU v g id W (hv.grew q) h.small
 have HLK:=hY fun t (ht:Kz t) W (q:AA w W)=>(h.map.grew q).look t ht Tryz.underlying83 CV.zero (Xa W)
 obtain⟨av,cv,rfl,-,-⟩:=hv.openC;have x0:=cell_of (o:=0) hx;have x1:=cell_of (o:=1) hx;have x2:=cell_of (o:=2) hx;simp at x0 x1 x2;have px:=Ad.mk (AB hx);have HX:=hY hx;clear h hf hx hv hgp;go_enter Tryz.func38,Tryz.ntmps38
 go_wp2_with (go_at_call 52;go_loud (refine(HALL.o _ gw).mono ?_);rintro e w1 ⟨aT,cT,rfl,hT,R1,n1,rfl⟩;(have HT:=hY hT);clear hT)
 obtain⟨T,hTT⟩:∃T,Af g=T:=⟨_,rfl⟩;rw[hTT] at HT HF HWH htl;rw[hTT];have HTT:=hY hTT;clear hTT;have hN:T.length≤24:=by omega
 go_loopg [6,25] T.length (fun gg s6 s25 wr=>∃(k:Nat) (vO vX:Value),k≤T.length∧T.length-k≤gg∧s25 = .int .i64 k∧Hid (JU w wr (w.heap.size+1) ep vO vX s6 (Hw g f (T.take k)) (Ll g f (T.take k)) (Lm g f (T.take k)) (.slice aT T.length cT) T))
 case atStart=>exact⟨0,_,_,by omega,by omega,rfl,hY ⟨gw,by omega,AC gw (AO w _ _ rfl),AC gw (AO _ _ _ (by simp[World.size_alloc])),OwnAt.nil _,OwnAt.nil _,OwnAt.nil _,OwnAt.low HT.o (by simp[World.size_alloc];omega)⟩⟩
 case round =>
  obtain⟨k,vO,vX,hk,hgg,rfl,HS⟩:=hrel;rename World=>wa;have hxa:=AC HS.o.g HX.o;by_cases hlt:k<T.length
  ·obtain⟨a',cap',e,-,hx⟩:=AX.open2 (α:=Ca) (f:=fun x=>Value.int .i64 x.1) (g:=fun x=>Value.int .i64 x.2) (OwnAt.rows HS.o.t KA);injection e with e1 e2 e3
   obtain⟨bt,offt,ha,hbt,t0,t1⟩:=hx k hlt;obtain rfl:aT=some ⟨bt,offt,none⟩:=e1.trans ha;have hmem:=List.getElem_mem hlt;obtain⟨c,hc,hak⟩:=HF.o _ hmem;have hok:=HWH.o _ hmem;have HTK:=hY (List.take_succ_eq_append_getElem hlt)
   have hlo:(Hw g f (T.take k)).length≤24*100:=by
    refine Nat.le_trans (DI (n:=100) fun y hy=>?_) (Nat.mul_le_mul (by rw[List.length_take];omega) (Nat.le_refl _));split<;>simp
   have hlx:(Ll g f (T.take k)).length≤24*100:=by
    refine Nat.le_trans (DI (n:=100) fun y hy=>?_) (Nat.mul_le_mul (by rw[List.length_take];omega) (Nat.le_refl _));obtain⟨-,-,-,-,-,-,q5⟩:=HF.o y (List.mem_of_mem_take hy);split
    ·exact q5
    ·simp
   have hle:(Lm g f (T.take k)).length≤24*100:=by
    refine Nat.le_trans (DI (n:=100) fun y hy=>?_) (Nat.mul_le_mul (by rw[List.length_take];omega) (Nat.le_refl _));obtain⟨-,-,-,-,-,q4,-⟩:=HF.o y (List.mem_of_mem_take hy);split
    ·simp
    ·exact q4
   have HAK:=hY hak;have HLK2:=hY fun W q=>HLK.o _ hok W q
   rw[hc] at HLK2;have HFI2:=hY fun W q=>HFI.o T[k].1 W q
   have HSO:Hid (Hw g f (T.take (k+1))=Hw g f (T.take k)++(if kindOf g T[k].1=0 then [(f T[k]).off] else [])):=hY (by rw[HTK.o];exact Lp _ _);have HSX:Hid (Ll g f (T.take (k+1))=Ll g f (T.take k)++(if kindOf g T[k].1=2 then (f T[k]).lines else [])):=hY (by rw[HTK.o];exact Lp _ _);have HSE:Hid (Lm g f (T.take (k+1))=Lm g f (T.take k)++(if kindOf g T[k].1=0∨kindOf g T[k].1=2 then [] else (f T[k]).ents)):=hY (by rw[HTK.o];exact Lp _ _);clear hx e1 e2 e3 ha hmem hc hak hok HTK;unfold kindOf at HSO HSX HSE;generalize T[k]=t at *;obtain⟨ti,tk⟩:=t;simp only at t0 t1 HFI2 HSO HSX HSE;generalize Gr.nodeOf g ti=rq at *;generalize f (ti,tk)=A at *;obtain⟨d0,d1,d2,d3,d4,d5,d6,d7,d8,d9⟩:=c;have x0:=cell_of (o:=0) hxa;have x2:=cell_of (o:=2) hxa;simp at x0 x2;have px:=Ad.mk (AB hxa);have hl1:=HLK2.o ((wa.alloc (.cells #[.int .i64 ti,.int .i64 tk] 106)).drew) (HS.o.g.trans gw);have hl2:=fun o=>HLK2.o (((wa.alloc (.cells #[.int .i64 ti,.int .i64 tk] 106)).alloc o).drew) (HS.o.g.trans gw)
   simp only[ZQ,whK,akv,Option.getD_some] at hl1 hl2
   go_upto_region 7 with fail
   go_cut [9] (fun s9 wx=>∃B9:Nat,s9 = .pointer (some ⟨B9,0,none⟩)∧wx.heap[B9]? = some (.cells #[.int .i64 d0,.int .i64 d1,.int .i64 d2,.slice d3 d4 d5,.slice d6 d7 d8,.int .i64 d9] 33)∧AA (wa.alloc (.cells #[.int .i64 ti,.int .i64 tk] 106)) wx)
   case first =>
    go_region_held3 (fun w'=>w'.cell? ⟨x,2,none⟩=some (.map (some b))∧w'.cell? ⟨wa.heap.size,0,none⟩=some (.int .i64 ti)∧w'.cell? ⟨wa.heap.size,1,none⟩=some (.int .i64 tk)) ((refine⟨?_,?_,?_⟩<;>simp[go_sem, *])) (fail)
    all_goals
     go_wp2_with fail
     go_meet
     exact⟨_,rfl,AC gw (AO _ _ _ (by simp[go_sem])),gw⟩
   case rest =>
    obtain⟨B9,rfl,hb9,hg9⟩:=hcut;generalize wc=W9 at *;clear wc hl1 hl2;have hbw:W9.heap[wa.heap.size]? = some (.cells #[.int .i64 ti,.int .i64 tk] 106):=AC hg9 (AO _ _ _ rfl);have HG9:=hY (((AA.refl wa).alloc (.cells #[.int .i64 ti,.int .i64 tk] 106)).trans hg9);have hx9:=AC HG9.o hxa;have HB9:=hY hb9;have HX9:=hY hx9;clear x0 x2 px hg9 t0 t1;have x0:=cell_of (o:=0) hx9;have w0:=cell_of (o:=0) hbw;simp at x0 w0;have px:=Ad.mk (AB hx9);have pw:=Ad.mk (AB hbw)
    go_upto_region 8 with fail
    go_cut [10] (fun s10 wx=>∃B10:Nat,s10 = .pointer (some ⟨B10,0,none⟩)∧wx.cell? ⟨B10,1,none⟩=some (.int .i64 (XY rq))∧AA W9 wx)
    case first =>
     go_region_held3 (fun w'=>w'.cell? ⟨x,0,none⟩=some (.slice av g.length cv)∧w'.cell? ⟨wa.heap.size,0,none⟩=some (.int .i64 ti)) ((refine⟨?_,?_⟩<;>simp[go_sem, *])) (first
      | (go_simp;go_at_call 28;refine(HFI2.o _ (HS.o.g.trans (HG9.o.trans gw))).mono ?_;rintro e w2 h9;obtain⟨c9,rfl,hc9,R3,n3,rfl⟩:=ZO h9;(have HC9:=hY hc9);clear h9 hc9))
     all_goals
      go_wp2_with fail
      go_meet
      refine⟨_,rfl,?_,gw⟩;rw[←HC9.o];exact(cell_of (o:=1) (AC gw (AO _ _ _ (by simp[go_sem])))).trans rfl
    case rest =>
     obtain⟨B10,rfl,hkd,hg10⟩:=hcut;generalize wc=W10 at *;clear wc;have HSN:=hY (HS.o.grew (HG9.o.trans hg10));have HAN:=hY (HAK.o.grew (HS.o.g.trans (HG9.o.trans hg10)));have hb10:=AC hg10 HB9.o;clear x0 w0 px pw hg10;have m2:=cell_of (o:=2) HSN.o.blk;have m5:=cell_of (o:=5) HSN.o.blk;have a3:=cell_of (o:=3) hb10;have a4:=cell_of (o:=4) hb10;have a5:=cell_of (o:=5) hb10;simp at m2 m5 a3 a4 a5;have pm:=Ad.mk (AB HSN.o.blk);have pa:=Ad.mk (AB hb10);have pk:=Ad.ofCell hkd;generalize XY rq=kd at *;obtain⟨q1,⟨be,q2⟩,⟨bl,q3⟩,q4,q5⟩:=HAN.o;have HE2:=hY q2;have HL2:=hY q3;have hle2:=(OwnAt.rows q2 Az).len;have hll2:=(OwnAt.rows q3 Bt).len;by_cases k0:kd=0
     ·subst k0;have HSO2:=hY (HSO.o.trans (by rw[if_pos rfl]));have HSX2:=hY (HSX.o.trans (by rw[if_neg (by decide),List.append_nil]));have HSE2:=hY (HSE.o.trans (by rw[if_pos (.inl rfl),List.append_nil]));have HQ1:=hY q1;clear q1 q2 q3 hle2 hll2
      go_wp2_with (at_builtin;go_loud (refine Am (w0:=w) rfl (.tmp 54) (.tmp 57) 40 _ _ _ _ [d9] rfl Tryz.underlying40 A1Q rfl (by decide) Ar Ic rfl (HSN.o.o.grew gw) (HSN.o.g.trans gw) rfl (NN _ _ _ _ rfl (by simp[go_sem])) (by simp;omega) (by decide) (by simp) ?_);intro v7 W7 hA;obtain⟨-,n2,n5,f2,f5,p7,a7,c7,rfl⟩:=(HSN.o.grew gw).blkA (HSN.o.o.grew gw) (by decide) Ar hA;(have HA:=hY hA);clear hA)
      go_roundg (T.length-(k+1))
      case measure=>omega
      case rel =>
       have hA:=HA.o;rw[List.length_append,List.length_singleton] at hA;refine⟨k+1,.slice a7 ((Hw g f (T.take k)).length+1) c7,vX,by omega,by omega,by go_num,hY ?_⟩;rw[HSO2.o,HSX2.o,HSE2.o,←HQ1.o];exact(HSN.o.grew gw).addO hA
     by_cases k2:kd=2
     ·subst k2;have HSO2:=hY (HSO.o.trans (by rw[if_neg (by decide),List.append_nil]));have HSX2:=hY (HSX.o.trans (by rw[if_pos rfl]));have HSE2:=hY (HSE.o.trans (by rw[if_pos (.inr rfl),List.append_nil]));have hlen2:(Ll g f (T.take k)).length+A.lines.length≤1000000:=by omega
      clear q1 q2 q3 hle2 hll2
      go_wp2_with (at_builtin;go_loud (refine Fx (w0:=w) rfl (.tmp 63) (.tmp 65) 24 _ _ rfl Tryz.underlying24 Ms rfl (by decide) Bt JF rfl (HSN.o.x.grew gw) (HSN.o.g.trans gw) rfl (HL2.o.grew gw) hlen2 (by decide) ?_);intro v7 W7 hA;obtain⟨-,n2,n5,f2,f5,p7,a7,c7,rfl⟩:=(HSN.o.grew gw).blkA (HSN.o.x.grew gw) (by decide) Bt hA;(have HA:=hY hA);clear hA)
      go_roundg (T.length-(k+1))
      case measure=>omega
      case rel =>
       have hA:=HA.o;refine⟨k+1,vO,.slice a7 ((Ll g f (T.take k)).length+A.lines.length) c7,by omega,by omega,by go_num,hY ?_⟩;rw[HSO2.o,HSX2.o,HSE2.o];rw[List.length_append] at hA;exact(HSN.o.grew gw).addX hA
     have HSO2:=hY (HSO.o.trans (by rw[if_neg k0,List.append_nil]));have HSX2:=hY (HSX.o.trans (by rw[if_neg k2,List.append_nil]));have HSE2:=hY (HSE.o.trans (by rw[if_neg (fun q=>q.elim k0 k2)]));have hlen2:(Lm g f (T.take k)).length+A.ents.length≤1000000:=by omega
     have kb0:(kd==0)=false:=by simpa using k0
     have kb2:(kd==2)=false:=by simpa using k2
     clear q1 q2 q3 hle2 hll2 k0 k2
     go_wp2_with (at_builtin;go_loud (refine Fx (w0:=w) rfl (.tmp 47) (.tmp 49) 23 _ _ rfl Tryz.underlying23 Mv rfl (by decide) Az E5 rfl (HSN.o.e.grew gw) (HSN.o.g.trans gw) rfl (HE2.o.grew gw) hlen2 (by decide) ?_);intro v7 W7 hA;(have HA:=hY hA);clear hA)
     go_roundg (T.length-(k+1))
     case measure=>omega
     case rel =>
      refine⟨k+1,vO,vX,by omega,by omega,by go_num,hY ?_⟩;rw[HSO2.o,HSX2.o,HSE2.o];exact(HSN.o.grew gw).addE HA.o
  ·obtain rfl:k=T.length:=by omega
   have hs:=HS.o;rw[List.take_length] at hs
   have hle:(Lm g f T).length≤24*100:=by
    refine Nat.le_trans (DI (n:=100) fun y hy=>?_) (Nat.mul_le_mul hN (Nat.le_refl _));obtain⟨-,-,-,-,-,q4,-⟩:=HF.o y hy;split
    ·simp
    ·exact q4
   have HNW:=hY fun W (q:AA wa W)=>M0 _ (Lm g f T) W ((OwnAt.rows hs.e Az).grew q) (by omega)
   obtain⟨ao,co,rfl⟩:=(OwnAt.rows hs.o Ar).len;obtain⟨ax,cx,rfl⟩:=(OwnAt.rows hs.x Bt).len;obtain⟨ae,ce,rfl⟩:=(OwnAt.rows hs.e Az).len;have HS9:=hY hs;clear hs hle;have m0:=cell_of (o:=0) HS9.o.blk;have m1:=cell_of (o:=1) HS9.o.blk;have m2:=cell_of (o:=2) HS9.o.blk;have m3:=cell_of (o:=3) HS9.o.blk;have m4:=cell_of (o:=4) HS9.o.blk;have m5:=cell_of (o:=5) HS9.o.blk;have m6:=cell_of (o:=6) HS9.o.blk;have z0:=cell_of (o:=0) HS9.o.z;have z1:=cell_of (o:=1) HS9.o.z;have z2:=cell_of (o:=2) HS9.o.z;have z3:=cell_of (o:=3) HS9.o.z;have z4:=cell_of (o:=4) HS9.o.z;have z5:=cell_of (o:=5) HS9.o.z;have z6:=cell_of (o:=6) HS9.o.z;have f0:=AJ (o:=0) HS9.o.z;have f1:=AJ (o:=1) HS9.o.z;have f2:=AJ (o:=2) HS9.o.z;have f3:=AJ (o:=3) HS9.o.z;have f4:=AJ (o:=4) HS9.o.z;have f5:=AJ (o:=5) HS9.o.z;have f6:=AJ (o:=6) HS9.o.z;simp at m0 m1 m2 m3 m4 m5 m6 z0 z1 z2 z3 z4 z5 z6;have pm:=Ad.mk (AB HS9.o.blk);have pz:=Ad.mk (AB HS9.o.z);have hwa:=HS9.o.g.below.size
   go_wp2_with fail
   refine(HNW.o _ gw).mono ?_;rintro e w2 hN2;rcases hN2 with ⟨ho,tt,bt,rfl,hT2,h1,h2,R9,n9,rfl⟩|⟨ho,rfl,R9,n9,rfl⟩
   ·have HT2:=hY hT2;have HO:=hY ho;have HT1:=hY h1;have HT3:=hY h2;clear hT2 ho h1 h2
    go_wp2_with fail
    refine bodyPost_ret (v:=.tuple #[.agg #[.int .i64 ep,.int .i64 0,.slice ao (Hw g f T).length co,.slice none 0 0,.slice none 0 0,.slice ax (Ll g f T).length cx,.slice none 0 0],.pointer (some ⟨tt,0,none⟩),.int .i64 0]) (by simp[results,Tryz.results38,go_sem,pz,z0,z1,z2,z3,z4,z5,z6]) rfl ?_;rw[HTT.o];refine⟨ao,co,ax,cx,_,_,rfl,?_⟩;rw[←and_assoc];refine⟨UN (W1:=wa.more R9 n9) HS9.o gw ?_,?_,.inl ⟨HO.o,rfl,tt,bt,rfl,Au.sb (r:=w.heap.size) HT2.o ?_ (by have:=HT1.o;have:=AB HS9.o.z;omega) (by have:=HT3.o;have:=AB HS9.o.z;omega),by have:=HT1.o;omega,by have:=HT3.o;omega⟩⟩
    ·repeat (first|with_reducible exact Ay.refl _ _|with_reducible apply Ay.more|with_reducible apply Ay.setr)
    ·repeat (first|with_reducible exact HS9.o.g|with_reducible apply AA.more|with_reducible apply AA.alloc|refine AA.set ?_ (Nat.le_refl _) _)
    ·repeat (first|with_reducible exact Ay.refl _ _|with_reducible apply Ay.more|with_reducible apply Ay.setr)
   ·have HO:=hY ho;clear ho
    go_wp2_with fail
    refine bodyPost_ret (v:=.tuple #[.agg #[.int .i64 ep,.int .i64 0,.slice ao (Hw g f T).length co,.slice none 0 0,.slice none 0 0,.slice ax (Ll g f T).length cx,.slice none 0 0],.pointer none,.int .i64 1]) (by simp[results,Tryz.results38,go_sem,pz,z0,z1,z2,z3,z4,z5,z6]) rfl ?_;rw[HTT.o];refine⟨ao,co,ax,cx,_,_,rfl,?_⟩;rw[←and_assoc];refine⟨UN (W1:=wa.more R9 n9) HS9.o gw ?_,?_,.inr ⟨HO.o,rfl,rfl⟩⟩
    ·repeat (first|with_reducible exact Ay.refl _ _|with_reducible apply Ay.more|with_reducible apply Ay.setr)
    ·repeat (first|with_reducible exact HS9.o.g|with_reducible apply AA.more|with_reducible apply AA.alloc|refine AA.set ?_ (Nat.le_refl _) _)
structure Wh where
 ents:List Tab.En
 lines:List Gr.Ln
 o0:Int
 o1:Int
 o2:Int
 plan:List Gr.Stp
def Wh.off(wh:Wh)(k:Nat): Int:=[wh.o0,wh.o1,wh.o2].getD k 0
def OE(n:Gr.Nd)(k:Nat)(x:Tab.En): Bool:=x.node==n.id&&(decide (0≤x.key)&&Gr.taskOf n x.key==(k:Int))
def OG(n:Gr.Nd)(k:Nat)(x:Gr.Ln): Bool:=x.sink==n.id&&(decide (0≤x.key)&&Gr.taskOf n x.key==(k:Int))
noncomputable def J3(wh:Wh)(n:Gr.Nd)(k:Nat): Fq:=⟨if n.kind=1 then wh.ents.filter (OE n k) else [],if n.kind=0∨n.kind=1 then [] else wh.lines.filter (OG n k),if n.kind=0 then wh.off k else 0⟩
noncomputable def Hu(wh:Wh)(n:Gr.Nd)(p:Nat): List (Ca×Fq):=(List.range p).map fun(k:Nat)=>((n.id,(k:Int)),J3 wh n k)
noncomputable def Ak(g:List Gr.Nd)(wh:Wh)(m:Nat): List (Ca×Fq):=(List.range m).flatMap fun(id:Nat)=>(Gr.nodeOf g (id:Int)).elim [] fun n=>Hu wh n n.par.toNat
theorem Md(g:List Gr.Nd)(wh:Wh)(m:Nat): Ak g wh (m+1)=Ak g wh m++(Gr.nodeOf g (m:Int)).elim [] fun n=>Hu wh n n.par.toNat:=by
 unfold Ak;rw[List.range_succ,List.flatMap_append,List.flatMap_cons,List.flatMap_nil,List.append_nil]
theorem J4(wh:Wh)(n:Gr.Nd)(p:Nat): Hu wh n (p+1)=Hu wh n p++[((n.id,(p:Int)),J3 wh n p)]:=by
 unfold Hu;rw[List.range_succ,List.map_append];rfl
theorem QQ(wh:Wh)(n:Gr.Nd)(p:Nat): (Hu wh n p).length=p:=by simp[Hu]
theorem EX{g:List Gr.Nd}(wh:Wh)(hp:∀n∈g,n.par≤3): ∀m,(Ak g wh m).length≤m*3
 | 0=>by simp[Ak]
 |m+1=>by
  have ih:=EX wh hp m;rw[Md,List.length_append]
  cases hn:Gr.nodeOf g (m:Int) with
  | none=>simp only[Option.elim,List.length_nil];omega
  |some n =>
   have:=hp n (Gr.nodeOf_some hn).1;simp only[Option.elim,QQ];omega
def I5(W:World)(c:CV)(y:Ca×Fq): Prop:=c.node=y.1.1∧c.ix=y.1.2∧c.ep=9∧J8 W c y.2
theorem I5.grew{W W':World}{c:CV}{y:Ca×Fq}(h:I5 W c y)(g:AA W W'): I5 W' c y:=⟨h.1,h.2.1,h.2.2.1,h.2.2.2.grew g⟩
structure FZ (w W:World) (v:Value) (lc:List CV) (L:List (Ca×Fq)):Prop where
 g:AA w W
 o:OwnAt w.heap.size 33 6 Ej W v lc
 r:BL (I5 W) lc L
theorem FZ.grew{w W W':World}{v:Value}{lc:List CV}{L:List (Ca×Fq)}(h:FZ w W v lc L)(g:AA W W'): FZ w W' v lc L :=
 ⟨h.g.trans g,OwnAt.grew h.o g,BL.mono (fun _ _ q=>q.grew g) h.r⟩
theorem J8.ackB{W W':World}{c:CV}{a:Fq}(h:J8 W c a)(hb:∀(b:Nat) (cs:Array Value) (t:TypeId),W.heap[b]? = some (.cells cs t)→t≠33→W'.heap[b]? = W.heap[b]?): J8 W' c a:=by
 obtain⟨h1,⟨b1,h2⟩,⟨b2,h3⟩,h4⟩:=h;refine⟨h1,⟨b1,OwnAt.same h2 fun b hv=>?_⟩,⟨b2,OwnAt.same h3 fun b hv=>?_⟩,h4⟩
 ·obtain⟨-,cs,hc⟩:=OwnAt.block h2 hv;exact hb b cs _ hc (by decide)
 ·obtain⟨-,cs,hc⟩:=OwnAt.block h3 hv;exact hb b cs _ hc (by decide)
theorem FZ.add{w W W':World}{v v':Value}{lc:List CV}{c:CV}{L:List (Ca×Fq)}{y:Ca×Fq}(h:FZ w W v lc L)(hA:Ap w 33 6 Ej W v (lc++[c]) v' W')(hc:I5 W c y): FZ w W' v' (lc++[c]) (L++[y]):=by
 obtain⟨a1,a2,a3,a4,a5⟩:=hA;have hb:∀(b:Nat) (cs:Array Value) (t:TypeId),W.heap[b]? = some (.cells cs t)→t≠33→W'.heap[b]? = W.heap[b]? :=fun b cs t hc ht=>a4 b (AB hc) (OwnAt.other h.o hc ht)
 exact⟨a1,a2,BL.snoc (BL.mono (fun c y q=>⟨q.1,q.2.1,q.2.2.1,q.2.2.2.ackB hb⟩) h.r) ⟨hc.1,hc.2.1,hc.2.2.1,hc.2.2.2.ackB hb⟩⟩
structure UJ (W:World) (ce:Option Addr) (cE:Nat) (cl:Option Addr) (cL:Nat) (cp:Option Addr) (cP:Nat) (wh:Wh):Prop where
 e:Bp W (.slice ce wh.ents.length cE) wh.ents
 l:Hm W (.slice cl wh.lines.length cL) wh.lines
 p:BA W (.slice cp wh.plan.length cP) wh.plan
theorem UJ.grew{W W':World}{ce:Option Addr}{cE:Nat}{cl:Option Addr}{cL:Nat}{cp:Option Addr}{cP:Nat}{wh:Wh}(h:UJ W ce cE cl cL cp cP wh)(g:AA W W'): UJ W' ce cE cl cL cp cP wh :=
 ⟨AX.grew h.e g,AX.grew h.l g,h.p.grew g⟩
def A1I(w:World)(L:List (Ca×Fq))(e:Ending)(w':World): Prop:=∃a c lc,e = .returned (.slice a lc.length c)∧FZ w w' (.slice a lc.length c) lc L
theorem WJ:(Tryz.prog.info? 33).map (fun i=>(i.zero,i.size,i.bytes))=some (some (.agg #[.int .i64 0,.int .i64 0,.int .i64 0,.slice none 0 0,.slice none 0 0,.int .i64 0]),6,80):=by kernel_rfl
theorem A1J(W:World)(x:CV)(t:TypeId)(b:Nat){c:Array Value}(hc:c=(Ej x).toArray)(hb:b=W.heap.size): ∀j u,(([x]:List CV).flatMap Ej)[j]? = some u→(W.alloc (.cells c t)).cell? ⟨b,j,none⟩=some u:=by
 subst hc;intro j u hu;rw[DL W _ t b hb j];simpa using hu
theorem A3v(W:World)(x:Gr.Ln)(t:TypeId)(b:Nat){c:Array Value}(hc:c=(Dp x).toArray)(hb:b=W.heap.size): ∀j u,(([x]:List Gr.Ln).flatMap Dp)[j]? = some u→(W.alloc (.cells c t)).cell? ⟨b,j,none⟩=some u:=by
 subst hc;intro j u hu;rw[DL W _ t b hb j];simpa using hu
theorem A1K{l:List Tab.En}{i:Nat}(hi:i<l.length)(n:Gr.Nd)(k:Nat): (l.take (i+1)).filter (OE n k)=(l.take i).filter (OE n k)++if OE n k l[i]=true then [l[i]] else []:=by
 rw[List.take_succ_eq_append_getElem hi,List.filter_append]
 congr 1
 rw[List.filter_cons,List.filter_nil]
theorem A1L{l:List Gr.Ln}{i:Nat}(hi:i<l.length)(n:Gr.Nd)(k:Nat): (l.take (i+1)).filter (OG n k)=(l.take i).filter (OG n k)++if OG n k l[i]=true then [l[i]] else []:=by
 rw[List.take_succ_eq_append_getElem hi,List.filter_append]
 congr 1
 rw[List.filter_cons,List.filter_nil]
theorem TJ{l l':List Gr.Nd}(hp:l'.Perm l)(h:l.Pairwise fun a b=>a.id<b.id)(h':l'.Pairwise fun a b=>a.id≤b.id): l'=l:=by
 have hu:(l.map (·.id)).Nodup:=by
  rw[List.Nodup,List.pairwise_map];exact h.imp fun {a b} q e=>by omega
 have hu':(l'.map (·.id)).Nodup:=(hp.map (·.id)).nodup_iff.2 hu
 have hs':l'.Pairwise fun a b=>a.id<b.id:=by
  rw[List.Nodup,List.pairwise_map] at hu';exact(h'.and hu').imp fun {a b} ⟨q1,q2⟩=>by omega
 exact hp.eq_of_pairwise (le:=fun a b:Gr.Nd=>a.id<b.id) (fun a b _ _ h1 h2=>by omega) hs' h
theorem MQ(v:Value)(l:List Gr.Nd)(w:World)(hv:AV w v l)(hs:Small l)(hl:l.length≤19)(ho:l.Pairwise fun a b=>a.id<b.id): Calls Tryz.prog 27 #[v] w (fun e w'=>∃v',e = .returned v'∧AV w' v' l∧AA w w'):=by
 refine(EF v l w hv hs hl).mono ?_;rintro e w' ⟨v',lc,l',rfl,h1,h2,h3,h4,g⟩;obtain rfl:=TJ h3 ho h4;exact⟨v',rfl,h2.at h1,g⟩
theorem TK(v u:Value)(l m:List Gr.Nd)(w:World)(hv:AV w v l)(hu:AV w u m)(hs:Small l)(hl:l.length≤19)(ho:l.Pairwise fun a b=>a.id<b.id)(ht:Small m)(hm:m.length≤19)(hp:m.Pairwise fun a b=>a.id<b.id): Calls Tryz.prog 42 #[v,u] w (Ac (.bool (IQ l m)) w):=by
 have HV:=hY fun W (g:AA w W)=>MQ v l W (hv.grew g) hs hl ho
 have HU:=hY fun W (g:AA w W)=>MQ u m W (hu.grew g) ht hm hp
 clear hv hu hs ho ht hp hl hm;go_enter Tryz.func42,Tryz.ntmps42
 go_wp2_with fail
 refine(HV.o _ gw).mono ?_;rintro e w1 ⟨v1,rfl,hv1,R1,n1,rfl⟩;have HV1:=hY hv1;clear hv1
 go_wp2_with fail
 refine(HU.o _ gw).mono ?_;rintro e w1 ⟨v2,rfl,hv2,R2,n2,rfl⟩;have HV2:=hY hv2;clear hv2
 go_wp2_with fail
 refine(JY _ _ l m _ (HV1.o.grew gw) (HV2.o.grew gw)).mono ?_;rintro e w1 ⟨rfl,R3,n3,rfl⟩;go_wp2;go_ret;exact⟨rfl,gw⟩
abbrev Pt:=Int×Nat×List Tab.En
structure PtC where
 node:Int
 ix:Int
 a:Option Addr
 n:Nat
 c:Nat
def A4a(base:Nat)(W:World)(c:PtC)(p:Pt): Prop:=c.node=p.1∧c.ix=(p.2.1:Int)∧OwnAt base 57 6 Ci W (.slice c.a c.n c.c) p.2.2
theorem Dm.low{base base':Nat}{W:World}{B:Nat}{vs:List Value}{ls:List (List Tab.En)}(h:Dm base W B vs ls)(hb:base'≤base): Dm base' W B vs ls :=
 ⟨h.blk,h.len,fun i v l hi hl=>OwnAt.low (h.own i v l hi hl) hb,h.apart⟩
theorem A4a.same{base:Nat}{W:World}{x:PtC}{p:Pt}(h:A4a base W x p): x.node=p.1∧x.ix=(p.2.1:Int)∧x.n=p.2.2.length∧Bp W (.slice x.a x.n x.c) p.2.2:=by
 obtain⟨h1,h2,h3⟩:=h;have hr:=OwnAt.rows h3 Az;obtain⟨a,c,e⟩:=hr.len;refine⟨h1,h2,?_,hr⟩;injection e with _ e2 _
theorem bes_append(a b:List Int): Oc.bes (a++b)=Oc.bes a++Oc.bes b:=by simp[Oc.bes]
theorem A3e(x:Tab.En): Oc.bes [x.node,x.key,x.c0.1,x.c0.2,x.c1.1,x.c1.2]=Gr.putE x:=by
 simp[Oc.bes,Gr.putE,Gr.putV]
theorem A3f(x:Gr.Ln): Oc.bes [x.sink,x.frm,x.key,x.v.1,x.v.2]=Gr.putLn x:=by
 simp[Oc.bes,Gr.putLn,Gr.putV]
theorem A0d(x:Tab.En): (Gr.putE x).length=24:=by rw[←A3e,Oc.bes_len];rfl
theorem Yd(x:Gr.Ln): (Gr.putLn x).length=20:=by rw[←A3f,Oc.bes_len];rfl
theorem Pz{α:Type}(f:α→List UInt8)(k:Nat)(h:∀x,(f x).length=k)(l:List α): (l.flatMap f).length=l.length*k:=by
 induction l with
 | nil=>simp
 | cons x l ih=>rw[List.flatMap_cons,List.length_append,h,ih,List.length_cons,Nat.add_one_mul];omega
theorem NT{α β:Type}(f:α→List β)(l:List α)(k:Nat)(h:k<l.length): (l.take (k+1)).flatMap f=(l.take k).flatMap f++f l[k]:=by
 rw[List.take_succ_eq_append_getElem h,List.flatMap_append];simp
theorem NU{v:Val}(h:Ao v=true): Oc.fitsN v.1=true∧Oc.fitsN v.2=true:=by
 have:=Gr.okV_of h;unfold Gr.okV at this;exact⟨BG (by omega) (by omega),BG (by omega) (by omega)⟩
theorem A0e{m:Gr.Mf}(h:Gr.RightM BF m): ∀x∈m.ents,[x.node,x.key,x.c0.1,x.c0.2,x.c1.1,x.c1.2].all Oc.fitsN=true:=by
 intro x hx;obtain⟨h1,h2,h3,h4,-⟩:=h.en x hx;obtain⟨f1,f2⟩:=NU h3;obtain⟨f3,f4⟩:=NU h4;simp only[List.all_cons,List.all_nil,f1,f2,f3,f4,Bool.and_true];rw[BG (by omega) (by omega),BG (by omega) (by omega)];rfl
theorem A2F{m:Gr.Mf}(h:Gr.RightM BF m): ∀x∈m.out,[x.sink,x.frm,x.key,x.v.1,x.v.2].all Oc.fitsN=true:=by
 intro x hx;obtain⟨h1,h2,h3,h4⟩:=h.ou x hx;obtain⟨f1,f2⟩:=NU h4;simp only[List.all_cons,List.all_nil,f1,f2,Bool.and_true];rw[BG (by omega) (by omega),BG (by omega) (by omega),BG (by omega) (by omega)];rfl
theorem A0f{m:Gr.Mf}(h:Gr.RightM BF m): m.ents.length≤512:=Gr.ents_len (fun x hx=>⟨(h.en x hx).1,(h.en x hx).2.1⟩) h.ei
theorem A0g{m:Gr.Mf}(h:Gr.RightM BF m)(hr:∀n∈m.graph,n.route.length=8): 1≤m.offs.length∧m.offs.length≤3:=by
 obtain⟨n,hn,e⟩:=h.of;have hm:n∈m.graph:=List.mem_of_mem_head? hn;have hk:=Pw h.gr hr n hm;have:=hk.r;omega
theorem VP{m:Gr.Mf}(h:Gr.RightM BF m): Gr.normG m.graph=m.graph:=Gr.norm_self (h.so.imp fun h=>by omega) h.gr.ids h.gr.r7
def Ig(p:List Gr.Stp): List UInt8:=Gr.planB BZ p
theorem VQ:Ig []=[]:=by unfold Ig Gr.planB;simp
theorem Ye{p:List Gr.Stp}(h:p≠[]): Ig p=Gr.putPl BZ p:=by unfold Ig Gr.planB;rw[if_neg h]
theorem A2G(m:Gr.Mf): Gr.putM BZ m=Oc.bes [m.epoch,m.plans,(m.offs.length:Int)]++Oc.bes m.offs++(Oc.be m.graph.length++m.graph.flatMap (Gr.putNd BZ))++Oc.be m.ents.length++m.ents.flatMap Gr.putE++Oc.be m.out.length++m.out.flatMap Gr.putLn++(Oc.be (Ig m.plan).length++Ig m.plan):=by
 unfold Gr.putM Gr.putC Gr.putP;show _=_++(Oc.be (Gr.planB BZ m.plan).length++Gr.planB BZ m.plan);simp[Oc.bes]
end Go.Proofs.YtgebkpgilgppgaaGreat
namespace Go.Proofs.YtgebkpgilgppgaaGreat
open Go.RowKit Ga Go.ChangeShapes Go.WideShapes
theorem Ng:Tryz.prog.cellsOf 25=3:=by kernel_rfl
theorem Vr:Tryz.prog.cellsOf 28=6:=by kernel_rfl
theorem A0w:Tryz.prog.cellsOf 5=1:=by kernel_rfl
theorem Vs:BQ Tryz.prog 25 (fun _ cs (a:Int×Int×Int)=>cs=[Value.int .i64 a.1,Value.int .i64 a.2.1,Value.int .i64 a.2.2]∧True):=by
 intro H enc w fuel cs x hx;obtain⟨hl,hf⟩:=BQ.elems Tryz.underlying25 hx;rw[Ng] at hl
 match cs,hl with
 |[c0,c1,c2],_ =>
  obtain⟨m0,y0,h0⟩:=hf 0 (by decide);obtain⟨m1,y1,h1⟩:=hf 1 (by decide);obtain⟨m2,y2,h2⟩:=hf 2 (by decide);rw[CE] at h0 h1 h2;obtain⟨a,e0,-⟩:=BX H enc w m0 _ _ h0;obtain⟨b,e1,-⟩:=BX H enc w m1 _ _ h1;obtain⟨c,e2,-⟩:=BX H enc w m2 _ _ h2;simp at e0 e1 e2;subst e0 e1 e2;exact⟨(a,b,c),rfl,trivial⟩
theorem Vt:BQ Tryz.prog 28 (fun w cs (x:(Option Addr×Nat)×(Option Addr×Nat)×(Option Addr×Nat)×Wh)=>cs=[.slice x.1.1 x.2.2.2.ents.length x.1.2,.slice x.2.1.1 x.2.2.2.lines.length x.2.1.2,.int .i64 x.2.2.2.o0,.int .i64 x.2.2.2.o1,.int .i64 x.2.2.2.o2,.slice x.2.2.1.1 x.2.2.2.plan.length x.2.2.1.2]∧UJ w x.1.1 x.1.2 x.2.1.1 x.2.1.2 x.2.2.1.1 x.2.2.1.2 x.2.2.2):=by
 intro H enc w fuel cs x hx;obtain⟨hl,hf⟩:=BQ.fields Tryz.underlying28 hx;rw[Vr] at hl
 match cs,hl with
 |[c0,c1,c2,c3,c4,c5],_ =>
  obtain⟨n0,y0,h0⟩:=hf 0 _ rfl;obtain⟨n1,y1,h1⟩:=hf 1 _ rfl;obtain⟨n2,y2,h2⟩:=hf 2 _ rfl;obtain⟨n3,y3,h3⟩:=hf 3 _ rfl;have h0':DataW.trod enc Tryz.prog w 0 (fun _=>true) true n0 23 (([c0,c1,c2,c3,c4,c5].drop 0).take (Tryz.prog.cellsOf 23))=some y0:=h0;rw[Oy] at h0';have h1':DataW.trod enc Tryz.prog w 0 (fun _=>true) true n1 24 (([c0,c1,c2,c3,c4,c5].drop 1).take (Tryz.prog.cellsOf 24))=some y1:=h1;rw[RD] at h1';have h2':DataW.trod enc Tryz.prog w 0 (fun _=>true) true n2 25 (([c0,c1,c2,c3,c4,c5].drop 2).take (Tryz.prog.cellsOf 25))=some y2:=h2;rw[Ng] at h2';have h3':DataW.trod enc Tryz.prog w 0 (fun _=>true) true n3 26 (([c0,c1,c2,c3,c4,c5].drop 5).take (Tryz.prog.cellsOf 26))=some y3:=h3;rw[RF] at h3';obtain⟨l0,v0,e0,s0⟩:=BQ.slice Tryz.underlying23 QA (by decide) Yj H enc w n0 _ _ h0';obtain⟨l1,v1,e1,s1⟩:=BQ.slice Tryz.underlying24 Nb (by decide) Vn H enc w n1 _ _ h1';obtain⟨⟨a,b,c⟩,e2,-⟩:=Vs H enc w n2 _ _ h2';obtain⟨l3,v3,e3,s3⟩:=BQ.slice Tryz.underlying26 Nf (by decide) Vq H enc w n3 _ _ h3';obtain⟨a0,k0,rfl⟩:=slice_form s0;obtain⟨a1,k1,rfl⟩:=slice_form s1;obtain⟨a3,k3,rfl⟩:=slice_form s3;have r0:=(LW.rowsC (enc:=Ci) s0).1;have r1:=(LW.rowsC (enc:=Dp) s1).1;have r3:=A0v s3;simp at e0 e1 e2 e3;obtain⟨p2,p3,p4⟩:=e2;subst e0 e1 p2 p3 p4 e3;exact⟨((a0,k0),(a1,k1),(a3,k3),⟨l0,l1,a,b,c,l3.map (·.2)⟩),by simp,r0,r1,by rw[show(Wh.mk l0 l1 a b c (l3.map (·.2))).plan.length=l3.length from List.length_map ..];exact r3⟩
theorem A0x{H:Type}{enc:TypeId×Value→H}{w:World}{v:Value}{d:DataW H}{ps:List MemPlace}{r:Reach}{b:Nat}(ho:Value.okWide Tryz.prog w r b 28 v)(h:DataW.Trod enc Tryz.prog w 0 (fun _=>true) true 28 v d ps): ∃ce cE cl cL cp cP wh,v = .agg #[.slice ce wh.ents.length cE,.slice cl wh.lines.length cL,.int .i64 wh.o0,.int .i64 wh.o1,.int .i64 wh.o2,.slice cp wh.plan.length cP]∧UJ w ce cE cl cL cp cP wh:=by
 obtain⟨⟨⟨a0,k0⟩,⟨a1,k1⟩,⟨a3,k3⟩,wh⟩,h1,h2⟩:=Vt.arg h;exact⟨a0,k0,a1,k1,a3,k3,wh,YV Tryz.underlying28 ho h1,h2⟩
theorem A0y:BQ Tryz.prog 5 (fun _ cs (b:UInt8)=>cs=JS b∧True):=(BQ.int Tryz.underlying5).mono fun _ cs n h=>by
 obtain⟨h1,h2⟩:=h
 have h3:0≤n∧n≤255:=by
  simp[Lit.wf] at h2;exact h2
 obtain⟨k,rfl⟩:=Int.eq_ofNat_of_zero_le h3.1;refine⟨UInt8.ofNat k,?_,trivial⟩;rw[h1];unfold JS;rw[UInt8.toNat_ofNat',Nat.mod_eq_of_lt (by omega)]
theorem Yk{H:Type}{enc:TypeId×Value→H}{w:World}{v:Value}{d:DataW H}{ps:List MemPlace}{r:Reach}{b:Nat}(ho:Value.okWide Tryz.prog w r b 29 v)(h:DataW.Trod enc Tryz.prog w 0 (fun _=>true) true 29 v d ps): ∃l:List UInt8,AX 1 JS w v l:=by
 obtain⟨l,u,h1,h2⟩:=(BQ.slice Tryz.underlying29 A0w (by decide) A0y).arg h;obtain rfl:=MN Tryz.underlying29 ho h1;exact⟨l,(LW.rowsC (enc:=JS) h2).1⟩
theorem RG{H:Type}{enc:TypeId×Value→H}{w:World}{v:Value}{d:DataW H}{ps:List MemPlace}{r:Reach}{b:Nat}(ho:Value.okWide Tryz.prog w r b 22 v)(h:DataW.Trod enc Tryz.prog w 0 (fun _=>true) true 22 v d ps): ∃l,AV w v l∧capOk v:=by
 obtain⟨l,u,h1,h2⟩:=(BQ.slice Tryz.underlying22 Jv (by decide) Nc).arg h;obtain rfl:=MN Tryz.underlying22 ho h1;refine⟨_,A0u h2,?_⟩;obtain⟨a,cap,rfl,h3,-⟩:=h2;intro a' n' cap' e;cases e;exact h3
end Go.Proofs.YtgebkpgilgppgaaGreat
