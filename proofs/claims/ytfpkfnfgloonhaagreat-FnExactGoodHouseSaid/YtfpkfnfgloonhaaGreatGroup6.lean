/-
  What a crash of a replica gives.
  No condition.
-/
import Derived.Test.YtfpkfnfgloonhaaGreatGroupA
namespace Go.Proofs.YtfpkfnfgloonhaaGreat
open Go.Ab
set_option linter.unusedSimpArgs false
set_option maxRecDepth 20000
set_option maxHeartbeats 4000000
set_option linter.unusedVariables false

def okUp (g : GroupT) (r : Int) (up : Bool) : Bool := okGroup g && (isRep g r && (upAt g r == up))
def zeroG : GroupT := ⟨[], 0, 0⟩
def setRep (g : GroupT) (r : Int) (f : ReplicaT → ReplicaT) : List ReplicaT := match g.Reps[r.toNat]? with | some y => g.Reps.set r.toNat (f y) | none => g.Reps
def crashN (g : GroupT) (r : Int) : GroupT := ⟨setRep g r fun y => { y with Up := false }, g.Term, if g.Lead = r then -1 else g.Lead⟩
def resG (b : Bool) (g : GroupT) : GroupT := match b with | true => g | false => zeroG
def crashR (g : GroupT) (r : Int) : GroupT := resG (okUp g r true) (crashN g r)
end Go.Proofs.YtfpkfnfgloonhaaGreat
