/-
  What the functions on records and held transactions give.
  No condition.
-/
import Derived.Test.YtfpkfnfgloonhaaGreatCells
import Derived.Test.YtfpkfnfgloonhaaGreatSame
namespace Go.Proofs.YtfpkfnfgloonhaaGreat
open Go.Ab
set_option linter.unusedSimpArgs false
set_option maxRecDepth 20000
set_option maxHeartbeats 2000000
set_option linter.unusedVariables false

def cmpS (a b : List UInt8) : Int := if Op.bytesLess a b = true then -1 else if Op.bytesLess b a = true then 1 else 0
def cmpI (a b : Int) : Int := if a < b then -1 else if a > b then 1 else 0
end Go.Proofs.YtfpkfnfgloonhaaGreat
