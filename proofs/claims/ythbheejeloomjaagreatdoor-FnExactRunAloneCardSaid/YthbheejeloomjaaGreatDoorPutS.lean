/-
  A write put into a rising list: what the reference's function gives.
  No condition.
-/
import Derived.Test.YthbheejeloomjaaGreatDoorPutW
namespace Go.Proofs.YthbheejeloomjaaGreatDoor
open Go.Ab
set_option linter.unusedSimpArgs false
set_option maxRecDepth 20000
set_option maxHeartbeats 4000000
set_option linter.unusedVariables false

end Go.Proofs.YthbheejeloomjaaGreatDoor
