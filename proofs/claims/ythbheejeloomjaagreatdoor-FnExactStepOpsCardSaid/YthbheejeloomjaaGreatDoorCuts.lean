/-
  What the functions on cuts give.
  No condition.
-/
import Derived.Test.YthbheejeloomjaaGreatDoorStrs
namespace Go.Proofs.YthbheejeloomjaaGreatDoor
open Go.Ab
set_option linter.unusedSimpArgs false
set_option maxRecDepth 20000
set_option linter.unusedVariables false

def rising (p : Option (List UInt8)) : List (List UInt8) → Bool
  | [] => true
  | x :: xs => okKey x && (match p with | none => true | some q => Op.bytesLess q x) && rising (some x) xs
def prevOf {α : Type} (xs : List α) (k : Nat) : Option α := if k = 0 then none else xs[k - 1]?
def okCuts (xs : List (List UInt8)) : Bool := rising none xs && decide ((xs.length : Int) < 4)

def leqB (key : List UInt8) (x : List UInt8) : Bool := Op.bytesLess x key || x == key
def partN (key : List UInt8) (xs : List (List UInt8)) : Nat := (xs.filter (leqB key)).length
end Go.Proofs.YthbheejeloomjaaGreatDoor
