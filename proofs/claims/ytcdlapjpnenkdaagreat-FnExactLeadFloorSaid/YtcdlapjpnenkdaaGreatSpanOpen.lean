/-
  An argument that reads as a span.
  No condition.
-/
import Derived.Test.YtcdlapjpnenkdaaGreatState11
namespace Go.Proofs.YtcdlapjpnenkdaaGreat
open Go.Ab
set_option linter.unusedSimpArgs false
set_option maxRecDepth 20000
set_option linter.unusedVariables false

theorem open_Span : ∀ n cs, Sh Tryz.prog n 47 cs → ∃ x : SpanT, cs = SpanT.cells x ∧ SpanT.ok x := by
  intro n cs h
  cases n with
  | zero => unfold Sh at h; exact h.elim
  | succ n =>
    unfold Sh at h
    rw [Tryz.underlying47] at h
    simp only [ShL] at h
    obtain ⟨y0, z0, rfl, g0, y1, z1, rfl, g1, rfl⟩ := h
    obtain ⟨x0, rfl, o0⟩ := open_int Tryz.underlying3 _ _ g0
    obtain ⟨x1, rfl, o1⟩ := open_int Tryz.underlying3 _ _ g1
    exact ⟨⟨x0, x1⟩, rfl, o0, o1⟩
end Go.Proofs.YtcdlapjpnenkdaaGreat
