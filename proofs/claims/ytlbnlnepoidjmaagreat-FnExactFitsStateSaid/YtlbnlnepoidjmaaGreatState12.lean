/-
  What the functions that ask a state give: blocks, BlocksKey, MayLook; MayLook's law.
  No condition.
-/
import Derived.Test.YtlbnlnepoidjmaaGreatState11
namespace Go.Proofs.YtlbnlnepoidjmaaGreat
open Go.Ab
set_option linter.unusedSimpArgs false
set_option maxRecDepth 20000
set_option maxHeartbeats 4000000
set_option linter.unusedVariables false

def blP (key : List UInt8) (time : Int) (h : HeldT) : Bool := wrote h.Writes key && decide (h.Time ≤ time)
def blI (key : List UInt8) (time : Int) (h : HeldT) : Bool := bsHit (wK key) h.Writes && decide (h.Time ≤ time)
def blocksS (s : StateT) (key : List UInt8) (time : Int) : List Int := (s.Held.filter (blP key time)).map HeldT.Txn
theorem okState_writes {s : StateT} (h : okStateS s = true) {x : HeldT} (hx : x ∈ s.Held) : okWrites x.Writes = true := by
  rw [← okState_eq] at h
  simp only [okStateI, areHeldI, Bool.and_eq_true] at h
  obtain ⟨pre, hp⟩ := allPre_mem h.1.1.2.1 hx
  simp only [heldI, Bool.and_eq_true] at hp
  exact okRec_writes hp.1.1.1.1
def okAsk (s : StateT) (key : List UInt8) (time : Int) : Bool := okStateS s && okKey key && inB 0 time 100000
def mayL (s : StateT) (key : List UInt8) (time : Int) : Bool := okAsk s key time && decide (((blocksS s key time).length : Int) = 0)
end Go.Proofs.YtlbnlnepoidjmaaGreat
