/-
  What the reference's GoodState gives.
  No condition.
-/
import Derived.Test.YtgkghkcahepicaaGreatState7
namespace Go.Proofs.YtgkghkcahepicaaGreat
open Go.Ab
set_option linter.unusedSimpArgs false
set_option maxRecDepth 20000
set_option maxHeartbeats 4000000
set_option linter.unusedVariables false

def putGo (l : List (List UInt8)) (s : List UInt8) : Nat → Nat
  | 0 => 0
  | k + 1 => match l[k]? with | some x => if Op.bytesLess s x = true then putGo l s k else k + 1 | none => k + 1
theorem putGo_le (l : List (List UInt8)) (s : List UInt8) : ∀ k, putGo l s k ≤ k
  | 0 => Nat.le_refl _
  | k + 1 => by
    have ih := putGo_le l s k
    unfold putGo
    split
    · split <;> omega
    · omega
def putS (l : List (List UInt8)) (s : List UInt8) : List (List UInt8) := if 0 < putGo l s l.length ∧ l[putGo l s l.length - 1]? = some s then l else l.take (putGo l s l.length) ++ [s] ++ l.drop (putGo l s l.length)
def fullS (cells : List CellT) (w : WriteT) : Bool := match cells.find? (kEq w.Key) with | some c => decide ((c.Vers.length : Int) ≥ 16) | none => false
def allW (ws : List WriteT) (hs : List HeldT) : List WriteT := ws ++ (hs.map HeldT.Writes).flatten
def pC (ks : List (List UInt8)) (c : CellT) : List (List UInt8) := putS ks c.Key
def pW (ks : List (List UInt8)) (w : WriteT) : List (List UInt8) := putS ks w.Key
def keysS (cells : List CellT) (all : List WriteT) : List (List UInt8) := all.foldl pW (cells.foldl pC [])
def roomS (cells : List CellT) (hs : List HeldT) (ws : List WriteT) : Bool := !((allW ws hs).any (fullS cells)) && decide (((keysS cells (allW ws hs)).length : Int) ≤ 24)
end Go.Proofs.YtgkghkcahepicaaGreat
