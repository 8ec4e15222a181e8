/-
  What the reference's functions that ask GoodState give.
  No condition.
-/
import Derived.Test.YtgkghkcahepicaaGreatState8
import Derived.Test.YtgkghkcahepicaaGreatState6
namespace Go.Proofs.YtgkghkcahepicaaGreat
open Go.Ab
set_option linter.unusedSimpArgs false
set_option maxRecDepth 20000
set_option maxHeartbeats 4000000
set_option linter.unusedVariables false

def heldS (s : StateT) (pre : List HeldT) (h : HeldT) : Bool := okRec h.rec1 && decide (h.Time ≤ s.Floor) && prevB (fun a b => decide (a.Txn < b.Txn)) pre h && (pre.all fun g => apartS g h.Reads h.Writes) && !h.Writes.any (fun w => decide (lastS s.Cells w.Key ≥ h.Time))
def areHeldS (s : StateT) : Bool := allPre (heldS s) [] s.Held && (decide ((s.Held.length : Int) ≤ 12) && roomS s.Cells s.Held [])
def hEq (t : Int) (h : HeldT) : Bool := h.Txn == t
def tolS (s : StateT) (pre : List ToldT) (t : ToldT) : Bool := inB 1 t.Txn 60 && prevB (fun a b => decide (a.Txn < b.Txn)) pre t && fitT s t && (s.Held.find? (hEq t.Txn)).isNone
def okStateS (s : StateT) : Bool := (inB 0 s.Floor 100000 && okCells s.Cells && areHeldS s && decide ((s.Told.length : Int) ≤ 60)) && (!(s.Cells.any fun c => decide (lastS s.Cells c.Key > s.Floor)) && allPre (tolS s) [] s.Told)
end Go.Proofs.YtgkghkcahepicaaGreat
