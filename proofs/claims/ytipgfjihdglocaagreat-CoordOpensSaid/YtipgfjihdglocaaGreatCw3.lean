import Derived.Lib.Atoi
import Derived.Lib.ItoaNum
import Derived.Lib.Join
import Derived.Lib.IndexMore
import Derived.Lib.AtoiTie
import Derived.Lib.AtoiAllCases
import Derived.Lib.Fields
import Derived.Scope
import Derived.ScopeJumps
import Derived.Tactics
set_option linter.unusedSimpArgs false
set_option linter.unusedVariables false
set_option maxRecDepth 100000
set_option maxHeartbeats 64000000
namespace Tx
open Go.Lib
end Tx
namespace Co
open Go.Lib
abbrev Ins:=Int×Int
def hasA(op:Int): Bool:=op==1||(op==2||(op==4||(op==5||(op==15||op==16))))
def lo(op:Int): Int:=if op=1∨op=2 then -524288 else if op=15∨op=16 then 1 else 0
def hi(op:Int): Int:=if op=1∨op=2 then 524287 else if op=4∨op=5 then 1 else if op=15∨op=16 then 24 else 0
def rightI(i:Ins): Bool:=decide (0≤i.1)&&decide (i.1<18)&&decide (lo i.1≤i.2)&&decide (i.2≤hi i.1)
def fitsI(l:List Ins): Bool:=decide (l.length≤24)&&l.all rightI
def namesL:List (List UInt8):=[[72,65,76,84],[80,85,83,72],[80,85,83,72,73],[73,78],[76,79,65,68],[83,84,79,82,69],[65,68,68],[83,85,66],[77,85,76],[67,79,78,74],[84,85,82,78],[68,85,80],[83,87,65,80],[68,82,79,80],[69,77,73,84],[74,90],[74,77,80],[76,84]]
def nameOf(op:Int): List UInt8:=namesL.getD op.toNat []
def word(i:Ins): List UInt8:=nameOf i.1++(if hasA i.1 then 32::itoa i.2 else [])
def sep:List UInt8:=[59,32]
theorem right_parts{i:Ins}(h:rightI i=true): 0≤i.1∧i.1<18∧lo i.1≤i.2∧i.2≤hi i.1:=by
 unfold rightI at h;simp only[Bool.and_eq_true,decide_eq_true_eq] at h;exact⟨h.1.1.1,h.1.1.2,h.1.2,h.2⟩
theorem right_arg{i:Ins}(h:rightI i=true): -524288≤i.2∧i.2<524288:=by
 obtain⟨_,_,h2,h3⟩:=right_parts h;unfold lo at h2;unfold hi at h3;split at h2<;>split at h3<;>(try split at h2)<;>(try split at h3)<;>(try split at h3)<;>omega
theorem fits_parts{l:List Ins}(h:fitsI l=true): l.length≤24∧∀i∈l,rightI i=true:=by
 unfold fitsI at h;simp only[Bool.and_eq_true,decide_eq_true_eq,List.all_eq_true] at h;exact h
end Co
namespace Go
section
variable {P:Program} {a:Act} {w:World} {Q:Exit→Act→World→Prop}
theorem wp_skip_seq{x:Code}(h:x.wp P Q a w): (Code.seq .skip x).wp P Q a w:=wp_seq (wp_skip h)
end
end Go
