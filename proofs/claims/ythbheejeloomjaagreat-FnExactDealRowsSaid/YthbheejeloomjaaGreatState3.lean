/-
  What the functions on records give.
  No condition.
-/
import Derived.Test.YthbheejeloomjaaGreatState2
namespace Go.Proofs.YthbheejeloomjaaGreat
open Go.Ab
set_option linter.unusedSimpArgs false
set_option maxRecDepth 20000
set_option maxHeartbeats 2000000
set_option linter.unusedVariables false

def okRec (r : RecT) : Bool :=
  if r.Kind = 1 then inB 1 r.Txn 60 && okTime r.Time && inB 0 r.Lead 3 && decide ((r.Reads.length : Int) ≤ 8) && rising none r.Reads && decide ((r.Writes.length : Int) ≤ 8) && okWrites r.Writes && decide (0 < (r.Reads.length : Int) + (r.Writes.length : Int)) && !r.Yes
  else (decide (r.Lead = 0) && decide ((r.Reads.length : Int) = 0) && decide ((r.Writes.length : Int) = 0)) &&
    if r.Kind = 2 ∨ r.Kind = 3 then inB 1 r.Txn 60 && (if r.Yes = true then okTime r.Time else decide (r.Time = 0))
    else decide (r.Kind = 4) && decide (r.Txn = 0) && okTime r.Time && !r.Yes
theorem c_impl_isTxn (n : Int) : PC Tryz.prog false 81 [.int .i64 n] (.bool (inB 1 n 60)) [] := by
  refine pc_at Tryz.func81 rfl (by kernel_rfl) 5 [.tmp 2] rfl rfl ?_
  repeat' (conv => whnf); first
 | (refine nameB_cases (fun h => ?_) (fun h => ?_) <;> try simp only [nmL, lensB] at h)
 | refine Call0 (c_impl_within ..) rfl rfl ?_
 | fail
  all_goals
    conv => whnf
    refine OutA_plain rfl rfl ?_
    first
    | rfl
    | (simp only [*, named, AV.sub, AV.sub.subL, Bool.and_true, Bool.and_false, Bool.true_and, Bool.false_and, Bool.or_true, Bool.or_false, Bool.true_or, Bool.false_or, Bool.not_true, Bool.not_false, if_true, if_false, decide_true, decide_false, Bool.false_eq_true, Bool.and_self]; done)
    | (simp_all [named, AV.sub, AV.sub.subL]; done)
    | (simp_all [named, AV.sub, AV.sub.subL] <;> (intros; omega))
    | (exfalso; omega)
theorem c_impl_GoodRec (r : RecT) (hok : r.ok) (hw : r.Writes.length ≤ 1048576) (hr : r.Reads.length ≤ 1048576) : PC Tryz.prog false 112 [.agg r.cells] (.bool (okRec r)) [] := by
  have hs : IntKind.i64.wrap ((r.Reads.length : Int) + (r.Writes.length : Int)) = (r.Reads.length : Int) + (r.Writes.length : Int) := i64_wrap (by omega) (by omega)
  refine pc_at Tryz.func112 rfl (by kernel_rfl) 119 [.tmp 2] rfl rfl ?_
  repeat' (conv => whnf); first
 | (refine nameB_cases (b := r.Yes) (fun h => ?_) (fun h => ?_))
 | refine nameB_true ?_
 | refine nameB_false ?_
 | (refine nameB_dec (fun h => ?_) (fun h => ?_) <;> try simp only [lensB] at h)
 | (refine nameB_cases (fun h => ?_) (fun h => ?_) <;> try simp only [nmL, lensB] at h)
 | refine splitB_true ?_
 | refine splitB_false ?_
 | refine Call0 (c_impl_isTxn ..) rfl rfl ?_
 | refine Call0 (c_impl_isTime ..) rfl rfl ?_
 | refine Call0 (c_impl_within ..) rfl rfl ?_
 | refine Call0 (c_impl_areRising r.Reads hok.2.2.2.2.1) rfl rfl ?_
 | refine Call0 (c_impl_GoodWrites r.Writes hok.2.2.2.2.2.1 hw) rfl rfl ?_
 | refine side_and (side_of (by first | (and_intros <;> first | exact Nat.le_of_ble_eq_true rfl | rfl | omega | (simp only [lensB, lensC]; omega) | exact bytes_ok (Nat.le_of_ble_eq_true rfl) (by omega) (by simp only [lensB, lensC]; omega) | exact bytes_okN (Nat.le_of_ble_eq_true rfl) (by simp only [lensB, lensC]; omega)) | fail)) ?_
 | fail
  all_goals
    conv => whnf
    refine OutA_plain rfl rfl ?_
    first
    | rfl
    | (simp only [okRec, *, named, AV.sub, AV.sub.subL, Bool.and_true, Bool.and_false, Bool.true_and, Bool.false_and, Bool.or_true, Bool.or_false, Bool.true_or, Bool.false_or, Bool.not_true, Bool.not_false, if_true, if_false, decide_true, decide_false, Bool.false_eq_true, Bool.and_self]; done)
    | (simp_all [okRec, named, AV.sub, AV.sub.subL]; done)
    | (simp_all [okRec, named, AV.sub, AV.sub.subL] <;> (intros; omega))
    | (exfalso; omega)
end Go.Proofs.YthbheejeloomjaaGreat
