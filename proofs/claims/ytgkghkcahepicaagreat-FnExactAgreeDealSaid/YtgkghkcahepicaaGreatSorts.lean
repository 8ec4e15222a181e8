/-
  Sorted lists of numbers: what the reference's l1Put makes.
  No condition.
-/
import Derived.Test.YtgkghkcahepicaaGreatM4
namespace Go.Proofs.YtgkghkcahepicaaGreat
open Go.Ab
set_option linter.unusedSimpArgs false
set_option maxRecDepth 20000
set_option linter.unusedVariables false

def cntI (n : Int) (l : List Int) : Nat := (l.takeWhile fun x => decide (x < n)).length
def putI (l : List Int) (n : Int) : List Int := if l[cntI n l]? = some n then l else l.take (cntI n l) ++ [n] ++ l.drop (cntI n l)
theorem cnt_go {l : List Int} {n x : Int} {k K : Nat} (h : k + cntI n (l.drop k) = K) (hx : l[k]? = some x) (hlt : x < n) : k + 1 + cntI n (l.drop (k + 1)) = K := by
  rw [drop_get hx] at h
  unfold cntI at h ⊢
  rw [List.takeWhile_cons_of_pos (by simpa using hlt), List.length_cons] at h
  omega
theorem cnt_stop {l : List Int} {n x : Int} {k K : Nat} (h : k + cntI n (l.drop k) = K) (hx : l[k]? = some x) (hlt : ¬ x < n) : K = k := by
  rw [drop_get hx] at h
  unfold cntI at h
  rw [List.takeWhile_cons_of_neg (by simpa using hlt)] at h
  simpa using h.symm
theorem cnt_end {l : List Int} {n : Int} {k K : Nat} (h : k + cntI n (l.drop k) = K) (hk : ¬ (k : Int) < l.length) : K = k := by
  rw [List.drop_eq_nil_of_le (by omega)] at h
  simpa [cntI] using h.symm
theorem putI_same {l : List Int} {n x : Int} {k : Nat} (h : cntI n l = k) (hx : l[k]? = some x) (e : x = n) : putI l n = l := by
  unfold putI
  rw [h, if_pos (by rw [hx, e])]
theorem putI_new {l : List Int} {n : Int} {k : Nat} (h : cntI n l = k) (hx : ¬ (k : Int) < l.length ∨ ∃ x, l[k]? = some x ∧ ¬ x = n) : putI l n = l.take k ++ [n] ++ l.drop k := by
  unfold putI
  rw [h, if_neg]
  intro h2
  rcases hx with hx | ⟨x, hx, hne⟩
  · rw [List.getElem?_eq_none (by omega)] at h2; cases h2
  · rw [hx] at h2; cases h2; exact hne rfl
theorem putI_len {l : List Int} {n : Int} : (putI l n).length ≤ l.length + 1 := by
  unfold putI
  split
  · omega
  · simp only [List.length_append, List.length_take, List.length_cons, List.length_nil, List.length_drop]; omega
theorem foldI_len : ∀ (ys acc : List Int), (ys.foldl putI acc).length ≤ acc.length + ys.length
  | [], acc => by simp
  | y :: ys, acc => by
    have h1 := foldI_len ys (putI acc y)
    have h2 := putI_len (l := acc) (n := y)
    simp only [List.foldl_cons, List.length_cons]
    omega
end Go.Proofs.YtgkghkcahepicaaGreat
