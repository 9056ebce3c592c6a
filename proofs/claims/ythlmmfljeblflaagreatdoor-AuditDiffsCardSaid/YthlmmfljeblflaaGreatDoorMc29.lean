import Derived.Test.YthlmmfljeblflaaGreatDoorMc26
import Derived.Test.YthlmmfljeblflaaGreatDoorMc17
import Derived.Test.YthlmmfljeblflaaGreatDoorMc12
/-! remap.Fits; pack.entries. -/
namespace Go.Proofs.YthlmmfljeblflaaGreatDoor
set_option linter.unusedSimpArgs false
set_option linter.unusedVariables false
open Go.RowKit Ga
set_option maxRecDepth 100000

end Go.Proofs.YthlmmfljeblflaaGreatDoor
