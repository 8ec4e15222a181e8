/-
  What the functions that compare states give.
  No condition.
-/
import Derived.Test.YtfpkfnfgloonhaaTypesB
namespace Go.Proofs.Ytfpkfnfgloonhaa
open Go.Ab
set_option linter.unusedSimpArgs false
set_option maxRecDepth 20000
set_option linter.unusedVariables false

def HeldT.rec1 (x : HeldT) : RecT := ⟨1, x.Txn, x.Time, x.Lead, x.Reads, x.Writes, false⟩
end Go.Proofs.Ytfpkfnfgloonhaa
