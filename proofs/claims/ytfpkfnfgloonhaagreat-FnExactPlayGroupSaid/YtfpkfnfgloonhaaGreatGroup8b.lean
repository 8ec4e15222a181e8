/-
  The leader of a good group is one of its replicas.
  No condition.
-/
import Derived.Test.YtfpkfnfgloonhaaGreatGroup8
namespace Go.Proofs.YtfpkfnfgloonhaaGreat
open Go.Ab
set_option linter.unusedSimpArgs false
set_option maxRecDepth 20000
set_option maxHeartbeats 4000000
set_option linter.unusedVariables false

theorem okLead_lt {g : GroupT} (h : okGroup g = true) (h0 : ¬ g.Lead < 0) : 0 ≤ g.Lead ∧ g.Lead.toNat < g.Reps.length := by
  unfold okGroup okLead at h
  simp only [Bool.and_eq_true, Bool.or_eq_true, decide_eq_true_eq] at h
  rcases h.1.2 with h | h
  · omega
  · exact isRep_lt h.1
end Go.Proofs.YtfpkfnfgloonhaaGreat
