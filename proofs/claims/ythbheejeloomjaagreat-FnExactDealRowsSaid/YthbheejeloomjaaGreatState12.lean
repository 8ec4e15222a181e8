/-
  What the functions that ask a state give: blocks, BlocksKey, MayLook; MayLook's law.
  No condition.
-/
import Derived.Test.YthbheejeloomjaaGreatState11
namespace Go.Proofs.YthbheejeloomjaaGreat
open Go.Ab
set_option linter.unusedSimpArgs false
set_option maxRecDepth 20000
set_option maxHeartbeats 4000000
set_option linter.unusedVariables false

end Go.Proofs.YthbheejeloomjaaGreat
