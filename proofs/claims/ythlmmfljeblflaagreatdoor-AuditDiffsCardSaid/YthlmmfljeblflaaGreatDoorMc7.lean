import Derived.Test.YthlmmfljeblflaaGreatDoorMc0
import Derived.Test.YthlmmfljeblflaaGreatDoorMc4
/-! slices.SortFunc where there is nothing. -/
namespace Go.Proofs.YthlmmfljeblflaaGreatDoor
set_option linter.unusedSimpArgs false
set_option linter.unusedVariables false
open Go.RowKit
set_option maxRecDepth 100000

end Go.Proofs.YthlmmfljeblflaaGreatDoor
