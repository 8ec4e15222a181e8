/-
  What the reference's functions that ask GoodState give.
  No condition.
-/
import Derived.Test.YtpbabdnbbpgejaaState8
import Derived.Test.YtpbabdnbbpgejaaState6
namespace Go.Proofs.Ytpbabdnbbpgejaa
open Go.Ab
set_option linter.unusedSimpArgs false
set_option maxRecDepth 20000
set_option maxHeartbeats 4000000
set_option linter.unusedVariables false

def heldS (s : StateT) (pre : List HeldT) (h : HeldT) : Bool := okRec h.rec1 && decide (h.Time ≤ s.Floor) && prevB (fun a b => decide (a.Txn < b.Txn)) pre h && (pre.all fun g => apartS g h.Reads h.Writes) && !h.Writes.any (fun w => decide (lastS s.Cells w.Key ≥ h.Time))
def areHeldS (s : StateT) : Bool := allPre (heldS s) [] s.Held && (decide ((s.Held.length : Int) ≤ 12) && roomS s.Cells s.Held [])
theorem heldS_no {s : StateT} {pre : List HeldT} {h : HeldT} (q : okRec h.rec1 = false ∨ ¬ h.Time ≤ s.Floor ∨ prevB (fun a b : HeldT => decide (a.Txn < b.Txn)) pre h = false ∨ (pre.all fun g => apartS g h.Reads h.Writes) = false ∨ h.Writes.any (fun w => decide (lastS s.Cells w.Key ≥ h.Time)) = true) : heldS s pre h = false := by
  rcases q with q | q | q | q | q <;> simp only [heldS, q, decide_false, Bool.not_true, Bool.false_and, Bool.and_false]
theorem heldS_yes {s : StateT} {pre : List HeldT} {h : HeldT} (q1 : okRec h.rec1 = true) (q2 : h.Time ≤ s.Floor) (q3 : prevB (fun a b : HeldT => decide (a.Txn < b.Txn)) pre h = true) (q4 : (pre.all fun g => apartS g h.Reads h.Writes) = true) (q5 : h.Writes.any (fun w => decide (lastS s.Cells w.Key ≥ h.Time)) = false) : heldS s pre h = true := by
  simp only [heldS, q1, q2, q3, q4, q5, decide_true, Bool.not_false, Bool.true_and, Bool.and_true]
theorem all_hit {α : Type} {q : α → Bool} {xs : List α} {k : Nat} {x : α} {B : Bool} (h : (xs.drop k).all q = B) (hx : xs[k]? = some x) (hq : q x = false) : B = false := all_bad h hx hq
theorem find_go {α : Type} {q : α → Bool} {xs : List α} {k : Nat} {x : α} {B : Option α} (h : (xs.drop k).find? q = B) (hx : xs[k]? = some x) (hq : q x = false) : (xs.drop (k + 1)).find? q = B := by
  rw [drop_get hx, List.find?_cons_of_neg (by rw [hq]; simp)] at h
  exact h
theorem find_hit {α : Type} {q : α → Bool} {xs : List α} {k : Nat} {x : α} {B : Option α} (h : (xs.drop k).find? q = B) (hx : xs[k]? = some x) (hq : q x = true) : B = some x := by
  rw [drop_get hx, List.find?_cons_of_pos hq] at h
  exact h.symm
theorem find_end {α : Type} {q : α → Bool} {xs : List α} {k : Nat} {B : Option α} (h : (xs.drop k).find? q = B) (hk : ¬ (k : Int) < xs.length) : B = none := by
  rw [List.drop_eq_nil_of_le (by omega)] at h
  exact h.symm
def hEq (t : Int) (h : HeldT) : Bool := h.Txn == t
def tEq (t : Int) (h : ToldT) : Bool := h.Txn == t
def toldS (s : StateT) (t : Int) : ToldT := match s.Told.find? (tEq t) with | some x => x | none => ⟨0, false, 0⟩
def tolS (s : StateT) (pre : List ToldT) (t : ToldT) : Bool := inB 1 t.Txn 60 && prevB (fun a b => decide (a.Txn < b.Txn)) pre t && fitT s t && (s.Held.find? (hEq t.Txn)).isNone
def okStateS (s : StateT) : Bool := (inB 0 s.Floor 100000 && okCells s.Cells && areHeldS s && decide ((s.Told.length : Int) ≤ 60)) && (!(s.Cells.any fun c => decide (lastS s.Cells c.Key > s.Floor)) && allPre (tolS s) [] s.Told)
theorem tolS_no {s : StateT} {pre : List ToldT} {t : ToldT} (q : inB 1 t.Txn 60 = false ∨ fitT s t = false ∨ prevB (fun a b : ToldT => decide (a.Txn < b.Txn)) pre t = false ∨ (∃ g, s.Held.find? (hEq t.Txn) = some g)) : tolS s pre t = false := by
  rcases q with q | q | q | ⟨g, q⟩ <;> simp only [tolS, q, Option.isNone_some, Bool.false_and, Bool.and_false]
theorem tolS_yes {s : StateT} {pre : List ToldT} {t : ToldT} (q1 : inB 1 t.Txn 60 = true) (q2 : fitT s t = true) (q3 : prevB (fun a b : ToldT => decide (a.Txn < b.Txn)) pre t = true) (q4 : s.Held.find? (hEq t.Txn) = none) : tolS s pre t = true := by
  simp only [tolS, q1, q2, q3, q4, Option.isNone_none, Bool.true_and, Bool.and_true]
theorem allW_flat (hs : List HeldT) : (allW [] hs).length = (flatW hs).length := by
  unfold allW flatW
  simp [List.length_flatten, List.map_map, Function.comp_def]
theorem state_szW {s : StateT} (hw : s.w ≤ 1048576) : s.Cells.length + (allW [] s.Held).length ≤ 1048576 := by
  rw [allW_flat]
  have h1 := flatW_w s.Held
  have h2 : s.Cells.length ≤ wL CellT.w s.Cells := wL_len
  have h3 : s.w = wL CellT.w s.Cells + wL HeldT.w s.Held + s.Told.length := rfl
  omega
def settS (m : Int) : List HeldT → Int
  | [] => m
  | h :: hs => settS (if m < IntKind.i64.wrap (h.Time - 1) then m else IntKind.i64.wrap (h.Time - 1)) hs
end Go.Proofs.Ytpbabdnbbpgejaa
