/-
  A call that may share, with an object that is given up.
  No condition.
-/
import Derived.Test.YthbheejeloomjaaGreatDoorM4
namespace Go.Ab
set_option linter.unusedVariables false

end Go.Ab
