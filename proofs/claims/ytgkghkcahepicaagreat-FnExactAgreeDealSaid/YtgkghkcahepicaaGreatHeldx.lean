/-
  What HeldOf gives, and its law.
  No condition.
-/
import Derived.Test.YtgkghkcahepicaaGreatState11
namespace Go.Proofs.YtgkghkcahepicaaGreat
open Go.Ab
set_option linter.unusedSimpArgs false
set_option maxRecDepth 20000
set_option maxHeartbeats 4000000
set_option linter.unusedVariables false

def heldOs (rs : List (List UInt8)) (ws : List WriteT) : List AObj := [⟨false, 9, 1, rs.map strC⟩, ⟨false, 64, 3, ws.map WriteT.cells⟩]
def zeroH : HeldT := ⟨0, 0, 0, [], []⟩
def okHeldOf (s : StateT) (t : Int) : Bool := okStateS s && (s.Held.find? (hEq t)).isSome
def heldV (s : StateT) (t : Int) : HeldT := if okStateS s = true then (match s.Held.find? (hEq t) with | some g => g | none => zeroH) else zeroH
theorem areHeld_of {s : StateT} (h : okStateS s = true) : areHeldI s = true := by
  rw [← okState_eq] at h
  simp only [okStateI, Bool.and_eq_true] at h
  exact h.1.1.2
theorem held_hit {s : StateT} {t : Int} {g : HeldT} (h : okStateS s = true) (hb : bsHit (hK t) s.Held = true) (hg : s.Held[bsPos (hK t) s.Held]? = some g) : s.Held.find? (hEq t) = some g := by
  rw [bs_find (held_bs (areHeld_of h) t) (p := hEq t) (fun x _ => hEq_c x) hb]
  exact hg
theorem held_miss {s : StateT} {t : Int} (h : okStateS s = true) (hb : bsHit (hK t) s.Held = false) : s.Held.find? (hEq t) = none := by
  have h1 := bs_isSome (held_bs (areHeld_of h) t) (p := hEq t) (fun x _ => hEq_c x)
  rw [hb] at h1
  exact Option.isNone_iff_eq_none.1 (Option.isSome_eq_false_iff.1 h1.symm)
end Go.Proofs.YtgkghkcahepicaaGreat
