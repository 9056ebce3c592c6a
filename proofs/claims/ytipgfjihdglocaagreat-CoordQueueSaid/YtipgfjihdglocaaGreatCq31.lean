import Derived.Test.YtipgfjihdglocaaGreatCq27
import Derived.Test.YtipgfjihdglocaaGreatCq19
import Derived.Test.YtipgfjihdglocaaGreatCq10
set_option linter.unusedSimpArgs false
set_option linter.unusedVariables false
set_option maxRecDepth 100000
set_option maxHeartbeats 64000000
namespace Go.Proofs.YtipgfjihdglocaaGreat
open Go.RowKit Ga
def OkP(z:Gr.Stp): Prop:=0≤z.nd.id∧z.nd.id≤7∧0≤z.nd.kind∧z.nd.kind≤2∧z.nd.frm.length≤3∧0≤z.nd.par∧z.nd.par≤3∧Co.fitsI z.nd.prog=true
end Go.Proofs.YtipgfjihdglocaaGreat
