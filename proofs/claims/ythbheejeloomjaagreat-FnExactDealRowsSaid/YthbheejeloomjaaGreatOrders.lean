/-
  What isOrder gives.
  No condition.
-/
import Derived.Test.YthbheejeloomjaaGreatState12b
import Derived.Test.YthbheejeloomjaaGreatTypesC
namespace Go.Proofs.YthbheejeloomjaaGreat
open Go.Ab
set_option linter.unusedSimpArgs false
set_option maxRecDepth 20000
set_option maxHeartbeats 4000000
set_option linter.unusedVariables false

def okOrder (o : OrderT) : Bool := inB 1 o.Txn 60 && okRec (newR 1 o.Reads o.Writes)
theorem newR_txn (t : Int) (reads : List (List UInt8)) (ws : List WriteT) : okRec (newR t reads ws) = (inB 1 t 60 && okRec (newR 1 reads ws)) := by
  unfold okRec
  rw [if_pos (show (newR t reads ws).Kind = 1 from rfl), if_pos (show (newR 1 reads ws).Kind = 1 from rfl)]
  have e : inB 1 (newR 1 reads ws).Txn 60 = true := by rfl
  rw [e]
  simp only [newR, Bool.true_and, Bool.and_assoc]
  rfl
theorem ord_len {o : OrderT} (hw : o.w ≤ 1048576) : o.Reads.length ≤ 1048576 ∧ o.Writes.length ≤ 1048576 := by
  have e1 : wL WriteT.w o.Writes ≤ OrderT.w o := by unfold OrderT.w; omega
  have e2 := wL_len (w := List.length) (xs := o.Reads)
  have e3 := wL_len (w := WriteT.w) (xs := o.Writes)
  have e4 : wL List.length o.Reads ≤ OrderT.w o := by unfold OrderT.w; omega
  omega
theorem c_impl_isOrder (o : OrderT) (hok : o.ok) (hw : o.w ≤ 1048576) : PC Tryz.prog false 49 [.agg o.cells] (.bool (okOrder o)) [] := by
  have hl := ord_len hw
  refine pc_at Tryz.func49 rfl (by kernel_rfl) 13 [.tmp 2] rfl rfl ?_
  repeat' (conv => whnf); first
 | (refine nameB_cases (fun h => ?_) (fun h => ?_) <;> try simp only [nmL, lensB] at h)
 | refine splitB_true ?_
 | refine splitB_false ?_
 | refine Call0 (c_impl_isTxn ..) rfl rfl ?_
 | refine Call0 (c_impl_areParts o.Reads o.Writes hok.2.1 hok.2.2 hl.1 hl.2) rfl rfl ?_
 | refine side_and (side_of (by first | (and_intros <;> first | exact Nat.le_of_ble_eq_true rfl | rfl | omega | (simp only [lensB, lensC]; omega) | exact bytes_ok (Nat.le_of_ble_eq_true rfl) (by omega) (by simp only [lensB, lensC]; omega) | exact bytes_okN (Nat.le_of_ble_eq_true rfl) (by simp only [lensB, lensC]; omega)) | fail)) ?_
 | fail
  all_goals
    conv => whnf
    refine OutA_plain rfl rfl ?_
    first
    | rfl
    | (simp only [okOrder, *, named, AV.sub, AV.sub.subL, Bool.and_true, Bool.and_false, Bool.true_and, Bool.false_and, Bool.or_true, Bool.or_false, Bool.true_or, Bool.false_or, Bool.not_true, Bool.not_false, if_true, if_false, decide_true, decide_false, Bool.false_eq_true, Bool.and_self]; done)
    | (simp_all [okOrder, named, AV.sub, AV.sub.subL]; done)
    | (simp_all [okOrder, named, AV.sub, AV.sub.subL] <;> (intros; omega))
    | (exfalso; omega)
theorem c_spec_l15Order (o : OrderT) (hok : o.ok) (hw : o.w ≤ 1048576) : PC Tryz.prog false 70 [.agg o.cells] (.bool (okOrder o)) [] := by
  have hl := ord_len hw
  unfold okOrder
  rw [← newR_txn]
  refine pc_at Tryz.func70 rfl (by kernel_rfl) 11 [.tmp 2] rfl rfl ?_
  repeat' (conv => whnf); first
 | (refine nameB_cases (fun h => ?_) (fun h => ?_) <;> try simp only [nmL, lensB] at h)
 | refine Call0 (c_spec_l4Good (newR o.Txn o.Reads o.Writes) (newR_ok hok.2.1 hok.2.2) hl.2 hl.1) rfl rfl ?_
 | refine side_and (side_of (by first | (and_intros <;> first | exact Nat.le_of_ble_eq_true rfl | rfl | omega | (simp only [lensB, lensC]; omega) | exact bytes_ok (Nat.le_of_ble_eq_true rfl) (by omega) (by simp only [lensB, lensC]; omega) | exact bytes_okN (Nat.le_of_ble_eq_true rfl) (by simp only [lensB, lensC]; omega)) | fail)) ?_
 | fail
  all_goals
    conv => whnf
    refine OutA_plain rfl rfl ?_
    first
    | rfl
    | (simp only [*, named, AV.sub, AV.sub.subL, Bool.and_true, Bool.and_false, Bool.true_and, Bool.false_and, Bool.or_true, Bool.or_false, Bool.true_or, Bool.false_or, Bool.not_true, Bool.not_false, if_true, if_false, decide_true, decide_false, Bool.false_eq_true, Bool.and_self]; done)
    | (simp_all [named, AV.sub, AV.sub.subL]; done)
    | (simp_all [named, AV.sub, AV.sub.subL] <;> (intros; omega))
    | (exfalso; omega)
end Go.Proofs.YthbheejeloomjaaGreat
