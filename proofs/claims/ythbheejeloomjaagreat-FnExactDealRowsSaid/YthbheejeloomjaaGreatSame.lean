/-
  What the functions that compare states give.
  No condition.
-/
import Derived.Test.YthbheejeloomjaaGreatTypesB
namespace Go.Proofs.YthbheejeloomjaaGreat
open Go.Ab
set_option linter.unusedSimpArgs false
set_option maxRecDepth 20000
set_option linter.unusedVariables false

def HeldT.rec1 (x : HeldT) : RecT := ⟨1, x.Txn, x.Time, x.Lead, x.Reads, x.Writes, false⟩
theorem rec1_ok {x : HeldT} (h : x.ok) : x.rec1.ok := ⟨trivial, h.1, h.2.1, h.2.2.1, h.2.2.2.1, h.2.2.2.2, trivial⟩
theorem c_impl_Held_rec (x : HeldT) : PC Tryz.prog true 113 [.agg x.cells] (.agg x.rec1.cells) [] := by
  refine pc_at Tryz.func113 rfl (by kernel_rfl) 14 [.cell 2 149] rfl rfl ?_
  repeat' (conv => whnf); first
 | refine side_and (side_of (by first | (and_intros <;> first | exact Nat.le_of_ble_eq_true rfl | rfl | omega | (simp only [lensB, lensC]; omega) | exact bytes_ok (Nat.le_of_ble_eq_true rfl) (by omega) (by simp only [lensB, lensC]; omega) | exact bytes_okN (Nat.le_of_ble_eq_true rfl) (by simp only [lensB, lensC]; omega)) | fail)) ?_
 | fail
  all_goals
    conv => whnf
    exact OutA_plain rfl rfl rfl
theorem c_spec_l13HeldRec (x : HeldT) : PC Tryz.prog true 101 [.agg x.cells] (.agg x.rec1.cells) [] := by
  refine pc_at Tryz.func101 rfl (by kernel_rfl) 14 [.cell 2 149] rfl rfl ?_
  repeat' (conv => whnf); first
 | refine side_and (side_of (by first | (and_intros <;> first | exact Nat.le_of_ble_eq_true rfl | rfl | omega | (simp only [lensB, lensC]; omega) | exact bytes_ok (Nat.le_of_ble_eq_true rfl) (by omega) (by simp only [lensB, lensC]; omega) | exact bytes_okN (Nat.le_of_ble_eq_true rfl) (by simp only [lensB, lensC]; omega)) | fail)) ?_
 | fail
  all_goals
    conv => whnf
    exact OutA_plain rfl rfl rfl
end Go.Proofs.YthbheejeloomjaaGreat
