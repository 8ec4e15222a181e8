/-
  A call that may share, with an object that is given up.
  No condition.
-/
import Derived.Test.YtfpkfnfgloonhaaGreatM4
namespace Go.Ab
set_option linter.unusedVariables false

theorem Ans_mono {P : Program} {f : Nat} {args : Array Value} {w : World} {R S : Value → World → Prop} (h : Ans P f args w R) (hrs : ∀ v w', R v w' → S v w') : Ans P f args w S := by
  unfold Ans at h ⊢
  split at h
  · exact hrs _ _ h
  · exact h.mono fun e w' ⟨v, e1, e2⟩ => ⟨v, e1, hrs _ _ e2⟩
  · exact h.elim
end Go.Ab
