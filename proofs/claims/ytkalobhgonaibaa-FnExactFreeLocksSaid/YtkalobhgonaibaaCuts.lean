/-
  What the functions on cuts give.
  No condition.
-/
import Derived.Test.YtkalobhgonaibaaStrs
namespace Go.Proofs.Ytkalobhgonaibaa
open Go.Ab
set_option linter.unusedSimpArgs false
set_option maxRecDepth 20000
set_option linter.unusedVariables false

def rising (p : Option (List UInt8)) : List (List UInt8) → Bool
  | [] => true
  | x :: xs => okKey x && (match p with | none => true | some q => Op.bytesLess q x) && rising (some x) xs
def prevOf {α : Type} (xs : List α) (k : Nat) : Option α := if k = 0 then none else xs[k - 1]?
theorem prevOf_next {α : Type} {xs : List α} {k : Nat} {x : α} (hx : xs[k]? = some x) : prevOf xs (k + 1) = some x := by simp [prevOf, hx]
theorem prevOf_pos {α : Type} {xs : List α} {k : Nat} {y : α} (h : (k : Int) > 0) (hy : xs[k - 1]? = some y) : prevOf xs k = some y := by
  unfold prevOf
  rw [if_neg (by omega)]
  exact hy
theorem prevOf_zero {α : Type} {xs : List α} {k : Nat} (h : ¬ (k : Int) > 0) : prevOf xs k = none := by
  unfold prevOf
  rw [if_pos (by omega)]
theorem rising_at {xs : List (List UInt8)} {k : Nat} {x : List UInt8} {B : Bool} (h : rising (prevOf xs k) (xs.drop k) = B) (hx : xs[k]? = some x) :
    (okKey x && (match prevOf xs k with | none => true | some q => Op.bytesLess q x) && rising (prevOf xs (k + 1)) (xs.drop (k + 1))) = B := by
  rw [drop_get hx] at h
  rw [prevOf_next hx]
  exact h
theorem rising_end {xs : List (List UInt8)} {k : Nat} {B : Bool} (h : rising (prevOf xs k) (xs.drop k) = B) (hk : ¬ (k : Int) < xs.length) : B = true := by
  rw [List.drop_eq_nil_of_le (by omega)] at h
  exact h.symm
theorem rising_bad1 {xs : List (List UInt8)} {k : Nat} {x : List UInt8} {B : Bool} (h : rising (prevOf xs k) (xs.drop k) = B) (hx : xs[k]? = some x) (h1 : okKey x = false) : B = false := by
  have := rising_at h hx
  rw [h1] at this
  simpa using this.symm
theorem rising_bad2 {xs : List (List UInt8)} {k : Nat} {x y : List UInt8} {B : Bool} (h : rising (prevOf xs k) (xs.drop k) = B) (hx : xs[k]? = some x) (hk : (k : Int) > 0) (hy : xs[k - 1]? = some y) (h1 : Op.bytesLess y x = false) : B = false := by
  have := rising_at h hx
  rw [prevOf_pos hk hy] at this
  simp only [h1] at this
  simpa using this.symm
theorem rising_go1 {xs : List (List UInt8)} {k : Nat} {x : List UInt8} {B : Bool} (h : rising (prevOf xs k) (xs.drop k) = B) (hx : xs[k]? = some x) (h1 : okKey x = true) (hk : ¬ (k : Int) > 0) : rising (prevOf xs (k + 1)) (xs.drop (k + 1)) = B := by
  have := rising_at h hx
  rw [prevOf_zero hk] at this
  simpa [h1] using this
theorem rising_go2 {xs : List (List UInt8)} {k : Nat} {x y : List UInt8} {B : Bool} (h : rising (prevOf xs k) (xs.drop k) = B) (hx : xs[k]? = some x) (h1 : okKey x = true) (hk : (k : Int) > 0) (hy : xs[k - 1]? = some y) (h2 : Op.bytesLess y x = true) : rising (prevOf xs (k + 1)) (xs.drop (k + 1)) = B := by
  have := rising_at h hx
  rw [prevOf_pos hk hy] at this
  simpa [h1, h2] using this
theorem leq_no {x y : List UInt8} (h : (Op.bytesLess x y || x == y) = true) : Op.bytesLess y x = false := by rw [bl_leq] at h; simpa using h
theorem leq_yes {x y : List UInt8} (h : (Op.bytesLess x y || x == y) = false) : Op.bytesLess y x = true := by rw [bl_leq] at h; simpa using h
def okCuts (xs : List (List UInt8)) : Bool := rising none xs && decide ((xs.length : Int) < 4)

def leqB (key : List UInt8) (x : List UInt8) : Bool := Op.bytesLess x key || x == key
def partN (key : List UInt8) (xs : List (List UInt8)) : Nat := (xs.filter (leqB key)).length
theorem partN_at {key : List UInt8} {xs : List (List UInt8)} {k n N : Nat} {x : List UInt8} (h : n + partN key (xs.drop k) = N) (hx : xs[k]? = some x) : n + (if leqB key x = true then 1 else 0) + partN key (xs.drop (k + 1)) = N := by
  rw [drop_get hx] at h
  rw [← h]
  unfold partN
  by_cases e : leqB key x = true
  · rw [if_pos e, List.filter_cons_of_pos e, List.length_cons]; omega
  · rw [if_neg e, List.filter_cons_of_neg e]; omega
theorem partN_end {key : List UInt8} {xs : List (List UInt8)} {k n N : Nat} (h : n + partN key (xs.drop k) = N) (hk : ¬ (k : Int) < xs.length) : n = N := by
  rw [List.drop_eq_nil_of_le (by omega)] at h
  simpa [partN] using h
end Go.Proofs.Ytkalobhgonaibaa
