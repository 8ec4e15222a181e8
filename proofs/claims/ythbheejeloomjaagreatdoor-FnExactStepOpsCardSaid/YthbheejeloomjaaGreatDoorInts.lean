/-
  What the functions on lists of numbers give.
  No condition.
-/
import Derived.Test.YthbheejeloomjaaGreatDoorTypesA
namespace Go.Proofs.YthbheejeloomjaaGreatDoor
open Go.Ab
set_option linter.unusedSimpArgs false
set_option maxRecDepth 20000
set_option linter.unusedVariables false


def inB (a n b : Int) : Bool := decide (a ≤ n) && decide (n ≤ b)
theorem c_spec_l1In (n a b : Int) : PC Tryz.prog false 87 [.int .i64 n, .int .i64 a, .int .i64 b] (.bool (inB a n b)) [] := by
  refine pc_at Tryz.func87 rfl (by kernel_rfl) 15 [.tmp 6] rfl rfl ?_
  repeat' (conv => whnf); first
 | (refine nameB_dec (fun h => ?_) (fun h => ?_) <;> try simp only [lensB] at h)
 | refine splitB_true ?_
 | refine splitB_false ?_
 | fail
  all_goals
    conv => whnf
    refine OutA_plain rfl rfl ?_
    first
    | rfl
    | (simp_all [inB, named, AV.sub, AV.sub.subL]; done)
    | (simp_all [inB, named, AV.sub, AV.sub.subL] <;> omega)
end Go.Proofs.YthbheejeloomjaaGreatDoor
