/-
  What the laws' markText gives.
  No condition.
-/
import Derived.Test.YtgkghkcahepicaaGreatM4
import Derived.Test.YtgkghkcahepicaaGreatProg
import Derived.KernelRfl
namespace Go.Proofs.YtgkghkcahepicaaGreat
open Go.Ab
set_option linter.unusedSimpArgs false
set_option maxRecDepth 20000
set_option maxHeartbeats 2000000
set_option linter.unusedVariables false

def digB (q : Int) : UInt8 := (IntKind.u8.wrap (48 + q.tmod 10)).toNat.toUInt8
end Go.Proofs.YtgkghkcahepicaaGreat
