/-
  WaitsFor's law.
  No condition.
-/
import Derived.Test.YtgkghkcahepicaaGreatLocks2
namespace Go.Proofs.YtgkghkcahepicaaGreat
open Go.Ab
set_option linter.unusedSimpArgs false
set_option maxRecDepth 20000
set_option maxHeartbeats 4000000
set_option linter.unusedVariables false

end Go.Proofs.YtgkghkcahepicaaGreat
