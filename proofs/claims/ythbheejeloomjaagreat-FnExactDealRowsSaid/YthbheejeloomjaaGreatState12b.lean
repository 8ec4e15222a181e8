/-
  What areParts gives.
  No condition.
-/
import Derived.Test.YthbheejeloomjaaGreatState12
namespace Go.Proofs.YthbheejeloomjaaGreat
open Go.Ab
set_option linter.unusedSimpArgs false
set_option maxRecDepth 20000
set_option maxHeartbeats 4000000
set_option linter.unusedVariables false

/-! FitsState. -/
def newR (t : Int) (reads : List (List UInt8)) (ws : List WriteT) : RecT := ⟨1, t, 1, 0, reads, ws, false⟩
theorem newR_ok {t : Int} {reads : List (List UInt8)} {ws : List WriteT} (h1 : okL okS reads) (h2 : okL WriteT.ok ws) : (newR t reads ws).ok := ⟨trivial, trivial, trivial, trivial, h1, h2, trivial⟩
theorem c_impl_areParts (reads : List (List UInt8)) (ws : List WriteT) (h1 : okL okS reads) (h2 : okL WriteT.ok ws) (l1 : reads.length ≤ 1048576) (l2 : ws.length ≤ 1048576) : PC Tryz.prog false 83 [.sl (reads.map strC), .sl (ws.map WriteT.cells)] (.bool (okRec (newR 1 reads ws))) [] := by
  refine pc_at Tryz.func83 rfl (by kernel_rfl) 9 [.tmp 4] rfl rfl ?_
  repeat' (conv => whnf); first
 | (refine nameB_cases (fun h => ?_) (fun h => ?_) <;> try simp only [nmL, lensB] at h)
 | refine Call0 (c_impl_GoodRec (newR 1 reads ws) (newR_ok h1 h2) l2 l1) rfl rfl ?_
 | fail
  all_goals
    conv => whnf
    refine OutA_plain rfl rfl ?_
    first
    | rfl
    | (simp only [*, named, AV.sub, AV.sub.subL, Bool.and_true, Bool.and_false, Bool.true_and, Bool.false_and, Bool.or_true, Bool.or_false, Bool.true_or, Bool.false_or, Bool.not_true, Bool.not_false, if_true, if_false, decide_true, decide_false, Bool.false_eq_true, Bool.and_self]; done)
    | (simp_all [named, AV.sub, AV.sub.subL]; done)
    | (simp_all [named, AV.sub, AV.sub.subL] <;> (intros; omega))
    | (exfalso; omega)
end Go.Proofs.YthbheejeloomjaaGreat
