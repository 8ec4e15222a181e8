/-
  The leader of a good group is one of its replicas.
  No condition.
-/
import Derived.Test.YtfpkfnfgloonhaaGreatGroup8
namespace Go.Proofs.YtfpkfnfgloonhaaGreat
open Go.Ab
set_option linter.unusedSimpArgs false
set_option maxRecDepth 20000
set_option maxHeartbeats 4000000
set_option linter.unusedVariables false

end Go.Proofs.YtfpkfnfgloonhaaGreat
