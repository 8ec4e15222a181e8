/-
  What the functions on commit times give.
  No condition.
-/
import Derived.Test.YtkalobhgonaibaaStrs
namespace Go.Proofs.Ytkalobhgonaibaa
open Go.Ab
set_option linter.unusedSimpArgs false
set_option maxRecDepth 20000
set_option linter.unusedVariables false

theorem mostOf_ge : ∀ (xs : List Int) (m x : Int), m ≤ x → mostOf m xs ≤ mostOf x xs
  | [], m, x, h => h
  | y :: ys, m, x, h => mostOf_ge ys _ _ (by split <;> split <;> omega)
theorem mostOf_max : ∀ (xs : List Int) (m x : Int), mostOf (if x > m then x else m) xs = (if x > mostOf m xs then x else mostOf m xs)
  | [], m, x => rfl
  | y :: ys, m, x => by
    simp only [mostOf]
    have e : (if (if x > m then x else m) > y then (if x > m then x else m) else y) = (if x > (if m > y then m else y) then x else (if m > y then m else y)) := by
      by_cases h1 : x > m <;> by_cases h2 : m > y <;> by_cases h3 : x > y <;> simp only [h1, h2, h3, if_true, if_false] <;> first | rfl | omega
    rw [e]
    exact mostOf_max ys _ x
def timesOk (xs : List Int) : Bool := inB 1 xs.length 4 && xs.all (fun n => inB 1 n 100000)
def okDecide (xs : List Int) (s : SpanT) : Bool := timesOk xs && okSpan s.Low s.High && !decide (mostOf (IntKind.i64.wrap (s.High + 1)) xs > 100000)
theorem any_not {α : Type} (q : α → Bool) (xs : List α) : (xs.any fun n => !q n) = !xs.all q := by rw [List.not_all_eq_any_not]
theorem okSpan_high {lo hi : Int} (h : okSpan lo hi = true) : -10 ≤ hi ∧ hi ≤ 100010 := by
  simp only [okSpan, Bool.and_eq_true, decide_eq_true_eq] at h
  omega
theorem span_wrap {s : SpanT} (h : okSpan s.Low s.High = true) : IntKind.i64.wrap (s.High + 1) = s.High + 1 := by
  have := okSpan_high h
  exact i64_wrap (by omega) (by omega)
theorem max_most {xs : List Int} {x0 m : Int} (h : xs[0]? = some x0) : (if m > mostOf x0 (xs.drop 1) then m else mostOf x0 (xs.drop 1)) = mostOf m xs := by
  cases xs with
  | nil => simp at h
  | cons y ys =>
    simp at h
    subst h
    simp only [List.drop_succ_cons, List.drop_zero, mostOf]
    rw [← mostOf_max ys y m]
end Go.Proofs.Ytkalobhgonaibaa
