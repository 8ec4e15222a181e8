/-
  The values of cells at a time: plain laws.
  No condition.
-/
import Derived.Test.YthbheejeloomjaaGreatPutW
import Derived.Test.YthbheejeloomjaaGreatBack3
namespace Go.Proofs.YthbheejeloomjaaGreat
open Go.Ab
set_option linter.unusedSimpArgs false
set_option maxRecDepth 20000
set_option maxHeartbeats 4000000
set_option linter.unusedVariables false

def rowAt (t : Int) (c : CellT) : Option WriteT := match (atV c.Vers t).2 with
  | true => some ⟨c.Key, (atV c.Vers t).1, false⟩
  | false => none
def rowsAt (t : Int) (cs : List CellT) : List WriteT := cs.filterMap (rowAt t)
theorem rowAt_yes {t : Int} {c : CellT} (h : (atV c.Vers t).2 = true) : rowAt t c = some ⟨c.Key, (atV c.Vers t).1, false⟩ := by unfold rowAt; rw [h]
theorem rowAt_no {t : Int} {c : CellT} (h : (atV c.Vers t).2 = false) : rowAt t c = none := by unfold rowAt; rw [h]
theorem rowsAt_yes {t : Int} {cs : List CellT} {k : Nat} {x : CellT} {L : List (List AV)} (hx : cs[k]? = some x) (hb : (atV x.Vers t).2 = true) (hL : L = [[.str x.Key, .str (atV x.Vers t).1, .bool false]]) : (rowsAt t (cs.take k)).map WriteT.cells ++ L = (rowsAt t (cs.take (k + 1))).map WriteT.cells := by
  rw [take_get hx, hL]
  unfold rowsAt
  rw [List.filterMap_append, List.map_append, List.filterMap_cons, rowAt_yes hb]
  rfl
theorem rowsAt_no {t : Int} {cs : List CellT} {k : Nat} {x : CellT} (hx : cs[k]? = some x) (hb : (atV x.Vers t).2 = false) : (rowsAt t (cs.take k)).map WriteT.cells = (rowsAt t (cs.take (k + 1))).map WriteT.cells := by
  rw [take_get hx]
  unfold rowsAt
  rw [List.filterMap_append, List.filterMap_cons, rowAt_no hb]
  simp
theorem rowsAt_len (t : Int) (cs : List CellT) : (rowsAt t cs).length ≤ cs.length := List.length_filterMap_le _ _
def verS (t : Int) (vs : List VerT) : VerT × Bool := vs.foldl (fun a v => if v.Time ≤ t then (v, true) else a) (⟨0, [], false⟩, false)
theorem verS_yes {t : Int} {vs : List VerT} {k : Nat} {v : VerT} (hx : vs[k]? = some v) (h : v.Time ≤ t) : verS t (vs.take (k + 1)) = (v, true) := by
  rw [take_get hx]
  unfold verS
  rw [List.foldl_append]
  simp [h]
theorem verS_no {t : Int} {vs : List VerT} {k : Nat} {v : VerT} (hx : vs[k]? = some v) (h : ¬ v.Time ≤ t) : verS t (vs.take (k + 1)) = verS t (vs.take k) := by
  rw [take_get hx]
  unfold verS
  rw [List.foldl_append]
  simp [h]
theorem verS_rev (t : Int) : ∀ vs : List VerT, verS t vs.reverse = match vs.find? (fun v => decide (v.Time ≤ t)) with | some v => (v, true) | none => (⟨0, [], false⟩, false)
  | [] => rfl
  | v :: vs => by
    have ih := verS_rev t vs
    unfold verS at ih ⊢
    rw [List.reverse_cons, List.foldl_append, ih]
    by_cases h : v.Time ≤ t <;> simp [h]
theorem verS_at (t : Int) (vs : List VerT) : ((verS t vs).2 && !(verS t vs).1.Gone) = (atV vs t).2 ∧ (((verS t vs).2 && !(verS t vs).1.Gone) = true → (verS t vs).1.Val = (atV vs t).1) := by
  have h := verS_rev t vs.reverse
  rw [List.reverse_reverse] at h
  unfold atV
  rw [h]
  cases vs.reverse.find? (fun v => decide (v.Time ≤ t)) with
  | none => exact ⟨rfl, fun h => by cases h⟩
  | some v => exact ⟨by simp, fun _ => rfl⟩
theorem atV_len {vs : List VerT} {t : Int} (h : okL VerT.ok vs) : okS (atV vs t).1 := by
  unfold atV
  split
  · rename_i v hv
    exact (h.2 v (by have := List.mem_of_find?_eq_some hv; simpa using this)).2.1
  · show (0 : Nat) ≤ _; omega
theorem rowsAt_ok {t : Int} {cs : List CellT} (h : ∀ c ∈ cs, c.ok) : ∀ w ∈ rowsAt t cs, w.ok := by
  intro w hw
  unfold rowsAt at hw
  obtain ⟨c, hc, he⟩ := List.mem_filterMap.1 hw
  unfold rowAt at he
  split at he
  · cases he
    exact ⟨(h c hc).1, atV_len (h c hc).2, trivial⟩
  · cases he
def valsOf (ss : List StateT) (t : Int) : List WriteT := ss.flatMap fun s => rowsAt t s.Cells
def rowsI (ss : List StateT) (t : Int) : List WriteT := (valsOf ss t).foldl putW []
def rowsS (ss : List StateT) (t : Int) : List WriteT := (valsOf ss t).foldl putWS []
theorem rows_eq (ss : List StateT) (t : Int) : rowsI ss t = rowsS ss t := (putW_fold _ [] List.Pairwise.nil).1
theorem vals_len (ss : List StateT) (t : Int) : (valsOf ss t).length ≤ wL StateT.w ss := by
  induction ss with
  | nil => exact Nat.zero_le _
  | cons s ss ih =>
    have h1 := rowsAt_len t s.Cells
    have h2 := wL_len (w := CellT.w) (xs := s.Cells)
    have h3 : s.w = wL CellT.w s.Cells + wL HeldT.w s.Held + s.Told.length := rfl
    unfold valsOf at ih ⊢
    simp only [List.flatMap_cons, List.length_append, wL, List.map_cons, List.sum_cons, List.length_cons] at ih ⊢
    simp only [wL] at h2 h3
    omega
theorem vals_take (ss : List StateT) (t : Int) {k : Nat} {s : StateT} (hs : ss[k]? = some s) : valsOf (ss.take (k + 1)) t = valsOf (ss.take k) t ++ rowsAt t s.Cells := by
  rw [take_get hs]
  unfold valsOf
  rw [List.flatMap_append]
  simp
theorem vals_pre (ss : List StateT) (t : Int) {k : Nat} {s : StateT} (hs : ss[k]? = some s) : (valsOf (ss.take k) t).length + (rowsAt t s.Cells).length ≤ (valsOf ss t).length := by
  have h := vals_take ss t hs
  have h2 : valsOf ss t = valsOf (ss.take (k + 1)) t ++ valsOf (ss.drop (k + 1)) t := by
    unfold valsOf
    rw [← List.flatMap_append, List.take_append_drop]
  rw [h2, h]
  simp only [List.length_append]
  omega
theorem rows_ok {ss : List StateT} {t : Int} (h : ∀ s ∈ ss, s.ok) : ∀ w ∈ rowsS ss t, w.ok := by
  intro w hw
  rcases putWS_fold_mem _ _ hw with hw | hw
  · cases hw
  · unfold valsOf at hw
    obtain ⟨s, hs, hw⟩ := List.mem_flatMap.1 hw
    exact rowsAt_ok (h s hs).2.1.2 w hw
def resWr (b : Bool) (l : List WriteT) : List WriteT := match b with | true => l | false => []
end Go.Proofs.YthbheejeloomjaaGreat
