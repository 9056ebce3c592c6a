import Derived.Test.YtipgfjihdglocaaGreatCq24
import Derived.Test.YtipgfjihdglocaaGreatCq16
set_option linter.unusedSimpArgs false
set_option linter.unusedVariables false
set_option maxRecDepth 100000
set_option maxHeartbeats 64000000
namespace Go.Proofs.YtipgfjihdglocaaGreat
open Go.RowKit Ga
end Go.Proofs.YtipgfjihdglocaaGreat
