/-
  The laws on states return true.
  No condition.
-/
import Derived.Test.YthbheejeloomjaaGreatState10
namespace Go.Proofs.YthbheejeloomjaaGreat
open Go.Ab
set_option linter.unusedSimpArgs false
set_option maxRecDepth 20000
set_option maxHeartbeats 4000000
set_option linter.unusedVariables false

theorem c_impl_GoodState2 (s : StateT) (hok : s.ok) (hw : s.w ≤ 1048576) : PC Tryz.prog false 48 [.agg s.cells] (.bool (okStateS s)) [] := by
  rw [← okState_eq]
  exact c_impl_GoodState s hok hw
end Go.Proofs.YthbheejeloomjaaGreat
