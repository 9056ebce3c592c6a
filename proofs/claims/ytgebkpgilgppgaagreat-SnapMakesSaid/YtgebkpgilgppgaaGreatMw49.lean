import Derived.Test.YtgebkpgilgppgaaGreatMw48
import Derived.Test.YtgebkpgilgppgaaGreatMw39
import Derived.Test.YtgebkpgilgppgaaGreatRows
set_option linter.unusedSimpArgs false
set_option linter.unusedVariables false
set_option maxRecDepth 100000
set_option maxHeartbeats 64000000
namespace Go.Proofs.YtgebkpgilgppgaaGreat.snapMakes
open Go.ChangeShapes Go.WideShapes Go.ChangeAt Go.RowKit
theorem A3u:laidOutB Tryz.prog=true:=by kernel_rfl
theorem own:ownKnob Tryz.prog.godebug=none:=by kernel_rfl
theorem lifted(os:Os)(started:os.Started)(H:Type)(enc:TypeId×Value→H):
  ReturnsInHanded {} Tryz.checked os 3 .any (Rows.snapMakesSpec.pre6 enc Tryz.prog Tryz.f3 Rows.snapMakesRow.domain false) (Rows.snapMakesSpec.post enc Tryz.prog Tryz.f3 false true false false):=by
 refine returnsInHanded_of_change (C:=Tryz.checked) own started (by kernel_rfl) Tryz.func3
  (ChangeSpec.witness6 (enc:=enc) (C:=Tryz.checked) false ⟨#[],#[.slice none 0 0,.agg #[.slice none 0 0,.slice none 0 0,.int .i64 0,.int .i64 0,.int .i64 0,.slice none 0 0],.slice none 0 0],[]⟩ 8 (by kernel_rfl) (by kernel_rfl) (by kernel_rfl) (by kernel_rfl)) ?_
 intro W base args ds gs before hval0 hW _ _;have hval:∀(j:Nat) t v,Tryz.f3.params[j]? = some t→args[j]? = some v→Value.okWide Tryz.prog W .any base t v:=hval0;have hW':=hW;obtain⟨p,q,hA0,hV,rfl,_,_⟩:=hW;have hA:DataW.TrodAll enc Tryz.prog W 0 (fun _=>true) true Tryz.f3.params.toList args.toList ds p:=hA0;rw[Tryz.params3] at hA hval;obtain⟨v0,v1,v2,d0,d1,d2,p0,p1,p2,hargs,rfl,rfl,h0,h1,h2⟩:=trodAll_three hA;obtain rfl:args=#[v0,v1,v2]:=by cases args;simp_all
 obtain⟨g,hg0,hcap⟩:=RG (hval 0 _ _ rfl rfl) h0;obtain⟨ce,cE,cl,cL,cp,cP,wh,rfl,hwh⟩:=A0x (hval 1 _ _ rfl rfl) h1;obtain⟨ts,hts⟩:=Yk (hval 2 _ _ rfl rfl) h2;refine(Ov v0 v2 g ce cE cl cL cp cP wh ts W hg0 hcap hwh hts).mono fun e W' he=>?_
 obtain⟨rfl,hg⟩:=he;exact⟨_,rfl,A0W A3u (by kernel_rfl) rfl rfl Tryz.underlying4 hW' (fun gs h=>by subst h;rfl) hg⟩
theorem holds:Rows.SnapMakesSaid :=
 OpenClaim.holds_of_wide 3 Tryz.f3 rfl rfl rfl rfl rfl rfl rfl ⟨rfl,rfl,rfl,rfl,rfl⟩ rfl rfl rfl rfl rfl (by kernel_rfl) Tryz.func3 (by kernel_rfl)
  (of_decide_eq_true (by kernel_rfl)) (by unfold Func.isWrapper;rw[if_neg (of_decide_eq_false (by kernel_rfl))];exact⟨rfl,rfl⟩)
  (fun os started H enc _=>lifted os started H enc)
#print axioms holds
end Go.Proofs.YtgebkpgilgppgaaGreat.snapMakes
