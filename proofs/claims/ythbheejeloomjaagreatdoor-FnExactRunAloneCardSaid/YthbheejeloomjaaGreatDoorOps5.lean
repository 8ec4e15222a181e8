/-
  A program step by step: what the reference's function gives.
  No condition.
-/
import Derived.Test.YthbheejeloomjaaGreatDoorOps3
import Derived.Test.YthbheejeloomjaaGreatDoorPutS
namespace Go.Proofs.YthbheejeloomjaaGreatDoor
open Go.Ab
set_option linter.unusedSimpArgs false
set_option maxRecDepth 20000
set_option maxHeartbeats 4000000
set_option linter.unusedVariables false

theorem addN_no {o : OpT} {val : List UInt8} (hz : val = []) : IntKind.i64.wrap (0 + o.By) = addN o val := by subst hz; rfl
theorem OnWay.giveH {got : List GotT} {l : List OpT} {k : Nat} {ws : List WriteT} {x : OpT} (h : OnWay got l k ws) (hx : l[k]? = some x) (hs : (stands ws got x.Key).2.2 = true) (hh : holdsB x (stands ws got x.Key).1 (stands ws got x.Key).2.1 = false) : stepG got l [] = (2, [], []) :=
  h.give hx (fun q => by rw [holds_23 (.inl q)] at hh; cases hh) (fun q => by rw [holds_23 (.inr q)] at hh; cases hh) hs hh
end Go.Proofs.YthbheejeloomjaaGreatDoor
