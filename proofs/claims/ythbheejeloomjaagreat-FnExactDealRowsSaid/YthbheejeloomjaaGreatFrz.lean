/-
  A call that may share, with an object that is given up.
  No condition.
-/
import Derived.Test.YthbheejeloomjaaGreatM4
namespace Go.Ab
set_option linter.unusedVariables false

end Go.Ab
