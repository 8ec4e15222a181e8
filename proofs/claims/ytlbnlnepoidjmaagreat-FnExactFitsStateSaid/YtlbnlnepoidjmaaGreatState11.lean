/-
  The laws on states return true.
  No condition.
-/
import Derived.Test.YtlbnlnepoidjmaaGreatState10
namespace Go.Proofs.YtlbnlnepoidjmaaGreat
open Go.Ab
set_option linter.unusedSimpArgs false
set_option maxRecDepth 20000
set_option maxHeartbeats 4000000
set_option linter.unusedVariables false

theorem c_impl_GoodState2 (s : StateT) (hok : s.ok) (hw : s.w ≤ 1048576) : PC Tryz.prog false 42 [.agg s.cells] (.bool (okStateS s)) [] := by
  rw [← okState_eq]
  exact c_impl_GoodState s hok hw
def mostP (s : StateT) (p : Int) : Int := if s.Floor > p then s.Floor else p
def pB (s : StateT) (p : Int) : Bool := okStateS s && inB 0 p 100000 && !(mostP s p == 100000)
def pT (s : StateT) (p : Int) : Int := if pB s p = true then IntKind.i64.wrap (mostP s p + 1) else 0
end Go.Proofs.YtlbnlnepoidjmaaGreat
