/- Fell: what is held, by the reference: triangles. -/
import Derived.Test.YthklgkgincebhaaGreatDoorFq
set_option linter.unusedSimpArgs false
set_option linter.unusedVariables false
namespace Go.Proofs.YthklgkgincebhaaGreatDoor
open Go.RowKit

end Go.Proofs.YthklgkgincebhaaGreatDoor
