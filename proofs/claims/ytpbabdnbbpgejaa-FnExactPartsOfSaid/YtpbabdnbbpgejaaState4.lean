/-
  What the program's functions on held transactions give.
  No condition.
-/
import Derived.Test.YtpbabdnbbpgejaaState3
import Derived.Test.YtpbabdnbbpgejaaM4
import Derived.Test.YtpbabdnbbpgejaaLays
namespace Go.Proofs.Ytpbabdnbbpgejaa
open Go.Ab
set_option linter.unusedSimpArgs false
set_option maxRecDepth 20000
set_option maxHeartbeats 2000000
set_option linter.unusedVariables false

def cK (key : List UInt8) (c : CellT) : Int := cmpS c.Key key
def wK (key : List UInt8) (w : WriteT) : Int := cmpS w.Key key
theorem bsHit_lt {α : Type} {c : α → Int} {xs : List α} (h : bsHit c xs = true) : bsPos c xs < xs.length := by
  unfold bsHit at h
  split at h
  · rename_i x hx; exact (List.getElem?_eq_some_iff.1 hx).1
  · cases h
def lastI (l : List CellT) (key : List UInt8) : Int := match l[bsPos (cK key) l]? with
  | some c => if bsHit (cK key) l = true then (match c.Vers.getLast? with | some v => v.Time | none => 0) else 0
  | none => 0
theorem lastI_no {l : List CellT} {key : List UInt8} (h : bsHit (cK key) l = false) : lastI l key = 0 := by
  unfold lastI
  split
  · rw [if_neg (by rw [h]; simp)]
  · rfl
theorem lastI_yes {l : List CellT} {key : List UInt8} {c : CellT} {v : VerT} (h : bsHit (cK key) l = true) (hx : l[bsPos (cK key) l]? = some c) (hv : c.Vers[c.Vers.length - 1]? = some v) : lastI l key = v.Time := by
  unfold lastI
  simp only [hx, h, if_true, List.getLast?_eq_getElem?, hv]
def overB (ws : List WriteT) (reads : List (List UInt8)) (others : List WriteT) : Bool := ws.any fun w => bsHit (wK w.Key) others || reads.any fun x => w.Key == x
def clashB (h k : HeldT) : Bool := overB h.Writes k.Reads k.Writes || overB k.Writes h.Reads h.Writes
end Go.Proofs.Ytpbabdnbbpgejaa
