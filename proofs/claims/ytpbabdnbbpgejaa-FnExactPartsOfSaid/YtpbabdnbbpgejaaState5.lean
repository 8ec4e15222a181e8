/-
  What the program's functions on states give.
  No condition.
-/
import Derived.Test.YtpbabdnbbpgejaaState4
namespace Go.Proofs.Ytpbabdnbbpgejaa
open Go.Ab
set_option linter.unusedSimpArgs false
set_option maxRecDepth 20000
set_option maxHeartbeats 4000000
set_option linter.unusedVariables false

def flatW (hs : List HeldT) : List (List UInt8) := (hs.map fun h => h.Writes.map WriteT.Key).flatten
def fullI (cells : List CellT) (w : WriteT) : Bool := match cells[bsPos (cK w.Key) cells]? with | some c => bsHit (cK w.Key) cells && decide ((c.Vers.length : Int) ≥ 16) | none => false
def keysI (cells : List CellT) (hs : List HeldT) : List (List UInt8) := cells.map CellT.Key ++ flatW hs
def roomI (cells : List CellT) (hs : List HeldT) : Bool := !(hs.any fun h => h.Writes.any (fullI cells)) && (decide ((hs.length : Int) ≤ 12) && decide (((compS (sortS (keysI cells hs))).length : Int) ≤ 24))
theorem flatW_take {hs : List HeldT} {i : Nat} {h : HeldT} (hx : hs[i]? = some h) : flatW (hs.take (i + 1)) = flatW (hs.take i) ++ h.Writes.map WriteT.Key := by
  unfold flatW
  rw [take_get hx, List.map_append, List.flatten_append]
  simp
theorem flatW_le (hs : List HeldT) (i : Nat) : (flatW (hs.take i)).length ≤ (flatW hs).length := by
  conv => rhs; rw [← List.take_append_drop i hs]
  unfold flatW
  rw [List.map_append, List.flatten_append, List.length_append]
  omega
theorem flatW_next {hs : List HeldT} {i : Nat} {h : HeldT} (hx : hs[i]? = some h) : (flatW (hs.take i)).length + h.Writes.length ≤ (flatW hs).length := by
  have h1 := flatW_le hs (i + 1)
  rw [flatW_take hx, List.length_append, List.length_map] at h1
  exact h1
theorem fullI_no {cells : List CellT} {w : WriteT} (h : bsHit (cK w.Key) cells = false) : fullI cells w = false := by
  unfold fullI
  split
  · rw [h]; rfl
  · rfl
theorem fullI_at {cells : List CellT} {w : WriteT} {c : CellT} {b : Bool} (h : bsHit (cK w.Key) cells = true) (hx : cells[bsPos (cK w.Key) cells]? = some c) (hb : decide ((c.Vers.length : Int) ≥ 16) = b) : fullI cells w = b := by
  unfold fullI
  simp only [hx, h, Bool.true_and, hb]
theorem any_in {α β : Type} {f : α → List β} {p : β → Bool} {xs : List α} {k : Nat} {x : α} {B : Bool} (h : ((xs.drop k).any fun x => (f x).any p) = B) (hx : xs[k]? = some x) (hq : (f x).any p = false) : ((xs.drop (k + 1)).any fun x => (f x).any p) = B := any_go h hx hq
theorem sn1 {A : List (List UInt8)} {ws : List WriteT} {j : Nat} {w : WriteT} {L : List (List AV)} (hx : ws[j]? = some w) (hL : L = [strC w.Key]) : (A ++ (ws.take j).map WriteT.Key).map strC ++ L = (A ++ (ws.take (j + 1)).map WriteT.Key).map strC := by
  rw [hL, take_get hx, List.map_append (f := WriteT.Key), ← List.append_assoc, List.map_append (l₂ := [w].map WriteT.Key)]
  rfl
theorem sn2 {A : List (List UInt8)} {ws : List WriteT} : A.map strC = (A ++ (ws.take 0).map WriteT.Key).map strC := by simp
theorem sn3 {A : List (List UInt8)} {hs : List HeldT} {i : Nat} {h : HeldT} {j : Nat} (hx : hs[i]? = some h) (hj : ¬ (j : Int) < h.Writes.length) : ((A ++ flatW (hs.take i)) ++ (h.Writes.take j).map WriteT.Key).map strC = (A ++ flatW (hs.take (i + 1))).map strC := by
  rw [flatW_take hx, List.take_of_length_le (l := h.Writes) (by omega), List.append_assoc]
theorem sn4 {cs : List CellT} {hs : List HeldT} {k : Nat} (hk : ¬ (k : Int) < cs.length) : ((cs.take k).map fun c => strC c.Key) = (cs.map CellT.Key ++ flatW (hs.take 0)).map strC := by
  rw [List.take_of_length_le (by omega)]
  simp [flatW]
theorem sn5 {A : List (List UInt8)} {hs : List HeldT} {i : Nat} (hi : ¬ (i : Int) < hs.length) : (A ++ flatW (hs.take i)).map strC = (A ++ flatW hs).map fun l => [AV.str l] := by
  rw [List.take_of_length_le (by omega)]
  rfl
theorem sortS_len (ss : List (List UInt8)) : (sortS ss).length = ss.length := by simp [sortS]
theorem room_len {cs : List CellT} {hs : List HeldT} (h : cs.length + (flatW hs).length ≤ 2097152) : (cs.map CellT.Key ++ flatW hs).length ≤ 4194304 := by
  rw [List.length_append, List.length_map]; omega
def hK (t : Int) (x : HeldT) : Int := cmpI x.Txn t
def tK (t : Int) (x : ToldT) : Int := cmpI x.Txn t
def heldI (s : StateT) (pre : List HeldT) (h : HeldT) : Bool := okRec h.rec1 && decide (h.Time ≤ s.Floor) && prevB (fun a b => decide (a.Txn < b.Txn)) pre h && !pre.any (clashB h) && !h.Writes.any (fun w => decide (h.Time ≤ lastI s.Cells w.Key))
def areHeldI (s : StateT) : Bool := allPre (heldI s) [] s.Held && roomI s.Cells s.Held
theorem heldI_no {s : StateT} {pre : List HeldT} {h : HeldT} (q : okRec h.rec1 = false ∨ ¬ h.Time ≤ s.Floor ∨ prevB (fun a b : HeldT => decide (a.Txn < b.Txn)) pre h = false ∨ pre.any (clashB h) = true ∨ h.Writes.any (fun w => decide (h.Time ≤ lastI s.Cells w.Key)) = true) : heldI s pre h = false := by
  rcases q with q | q | q | q | q <;> simp only [heldI, q, decide_false, Bool.not_true, Bool.false_and, Bool.and_false]
theorem heldI_yes {s : StateT} {pre : List HeldT} {h : HeldT} (q1 : okRec h.rec1 = true) (q2 : h.Time ≤ s.Floor) (q3 : prevB (fun a b : HeldT => decide (a.Txn < b.Txn)) pre h = true) (q4 : pre.any (clashB h) = false) (q5 : h.Writes.any (fun w => decide (h.Time ≤ lastI s.Cells w.Key)) = false) : heldI s pre h = true := by
  simp only [heldI, q1, q2, q3, q4, q5, decide_true, Bool.not_false, Bool.true_and, Bool.and_true]
end Go.Proofs.Ytpbabdnbbpgejaa
