import Derived.Test.YtipgfjihdglocaaGreatCq31
import Derived.Test.YtipgfjihdglocaaGreatCq16
import Derived.Test.YtipgfjihdglocaaGreatCq19
import Derived.Test.YtipgfjihdglocaaGreatCq10
set_option linter.unusedSimpArgs false
set_option linter.unusedVariables false
set_option maxRecDepth 100000
set_option maxHeartbeats 64000000
namespace Go.Proofs.YtipgfjihdglocaaGreat
open Go.RowKit Ga
theorem fits_nil:fitsP []:=by unfold fitsP;rfl
theorem nodes_route{w:World}{v:Value}{l:List Gr.Nd}(h:NodesAt w v l): ∀n∈l,n.route.length=8:=by
 obtain⟨lc,-,h2,h3⟩:=h;intro n hn;obtain⟨i,hi,rfl⟩:=List.mem_iff_getElem.1 hn;rw[(h3 i lc[i] l[i] (List.getElem?_eq_getElem (by omega)) (List.getElem?_eq_getElem hi)).route];rfl
theorem great_small{l:List Gr.Nd}(h:greatG l=false): Small l∧l.length≤20:=by
 unfold greatG at h;simp only[Bool.or_eq_false_iff,decide_eq_false_iff_not,List.any_eq_false] at h;refine⟨fun n hn=>?_,by omega⟩;have:=h.2 n hn;unfold greatN at this;simp only[Bool.or_eq_true,decide_eq_true_eq,not_or] at this;omega
theorem right_okB{l:List Gr.Nd}(h:Gr.RightR l)(h8:∀n∈l,n.route.length=8): ∀n∈l,Gr.OkB fitsP 1 n:=h.okB fits_nil (fun p hp=>safe_fits hp) h8
end Go.Proofs.YtipgfjihdglocaaGreat
