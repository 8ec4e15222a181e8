/-
  CrashRep's law.
  No condition.
-/
import Derived.Test.YtfpkfnfgloonhaaGreatGroup6
namespace Go.Proofs.YtfpkfnfgloonhaaGreat
open Go.Ab
set_option linter.unusedSimpArgs false
set_option maxRecDepth 20000
set_option maxHeartbeats 4000000
set_option linter.unusedVariables false

theorem sum_le_mul {α : Type} {w : α → Nat} {B : Nat} : ∀ {xs : List α}, (∀ x ∈ xs, w x ≤ B) → (xs.map w).sum ≤ xs.length * B
  | [], _ => by simp
  | x :: xs, h => by
    have h1 := sum_le_mul (xs := xs) (fun y hy => h y (List.mem_cons_of_mem _ hy))
    have h2 := h x (List.mem_cons_self ..)
    simp only [List.map_cons, List.sum_cons, List.length_cons, Nat.succ_mul]
    omega
theorem wL_bound {α : Type} {w : α → Nat} {B : Nat} {xs : List α} (hB : ∀ x ∈ xs, w x ≤ B) (hl : xs.length ≤ 5) : wL w xs ≤ 5 + 5 * B := by
  have h1 := sum_le_mul hB
  have h2 : xs.length * B ≤ 5 * B := Nat.mul_le_mul_right B hl
  unfold wL
  omega
theorem okG_len {g : GroupT} (h : okGroup g = true) : g.Reps.length ≤ 5 := by
  simp only [okGroup, okMany, Bool.and_eq_true, Bool.or_eq_true, decide_eq_true_eq] at h
  omega
theorem zeroG_w : zeroG.w ≤ 5242885 := by decide
end Go.Proofs.YtfpkfnfgloonhaaGreat
