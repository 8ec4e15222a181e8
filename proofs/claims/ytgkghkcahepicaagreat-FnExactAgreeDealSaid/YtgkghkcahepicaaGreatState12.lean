/-
  What the functions that ask a state give: blocks, BlocksKey, MayLook; MayLook's law.
  No condition.
-/
import Derived.Test.YtgkghkcahepicaaGreatState11
namespace Go.Proofs.YtgkghkcahepicaaGreat
open Go.Ab
set_option linter.unusedSimpArgs false
set_option maxRecDepth 20000
set_option maxHeartbeats 4000000
set_option linter.unusedVariables false

theorem fil_yes {α β : Type} {p : α → Bool} {f : α → β} {C : β → List AV} {xs : List α} {k : Nat} {x : α} {L : List (List AV)} (hx : xs[k]? = some x) (hp : p x = true) (hL : L = [C (f x)]) : (((xs.take k).filter p).map f).map C ++ L = (((xs.take (k + 1)).filter p).map f).map C := by
  rw [hL, take_get hx, List.filter_append, List.map_append, List.map_append]
  simp [hp]
theorem fil_no {α β : Type} {p : α → Bool} {f : α → β} {C : β → List AV} {xs : List α} {k : Nat} {x : α} (hx : xs[k]? = some x) (hp : p x = false) : (((xs.take k).filter p).map f).map C = (((xs.take (k + 1)).filter p).map f).map C := by
  rw [take_get hx, List.filter_append]
  simp [hp]
def blP (key : List UInt8) (time : Int) (h : HeldT) : Bool := wrote h.Writes key && decide (h.Time ≤ time)
def blI (key : List UInt8) (time : Int) (h : HeldT) : Bool := bsHit (wK key) h.Writes && decide (h.Time ≤ time)
def blocksS (s : StateT) (key : List UInt8) (time : Int) : List Int := (s.Held.filter (blP key time)).map HeldT.Txn
def okAsk (s : StateT) (key : List UInt8) (time : Int) : Bool := okStateS s && okKey key && inB 0 time 100000
def mayL (s : StateT) (key : List UInt8) (time : Int) : Bool := okAsk s key time && decide (((blocksS s key time).length : Int) = 0)
end Go.Proofs.YtgkghkcahepicaaGreat
