/-
  The laws on states return true.
  No condition.
-/
import Derived.Test.YtgkghkcahepicaaGreatState10
namespace Go.Proofs.YtgkghkcahepicaaGreat
open Go.Ab
set_option linter.unusedSimpArgs false
set_option maxRecDepth 20000
set_option maxHeartbeats 4000000
set_option linter.unusedVariables false

theorem c_impl_GoodState2 (s : StateT) (hok : s.ok) (hw : s.w ≤ 1048576) : PC Tryz.prog false 65 [.agg s.cells] (.bool (okStateS s)) [] := by
  rw [← okState_eq]
  exact c_impl_GoodState s hok hw
def mostP (s : StateT) (p : Int) : Int := if s.Floor > p then s.Floor else p
def pB (s : StateT) (p : Int) : Bool := okStateS s && inB 0 p 100000 && !(mostP s p == 100000)
def pT (s : StateT) (p : Int) : Int := if pB s p = true then IntKind.i64.wrap (mostP s p + 1) else 0
theorem out_eq (s : StateT) (t : Int) : outT (okStateI s && bsHit (tK t) s.Told) (toldAt s t) = outT (okStateS s) (toldS s t) ∧ (okStateI s && bsHit (tK t) s.Told) = (okStateS s && (s.Told.find? (tEq t)).isSome) := by
  rw [← okState_eq]
  cases h : okStateI s with
  | false => exact ⟨rfl, rfl⟩
  | true =>
    rw [told_hit h]
    refine ⟨?_, rfl⟩
    cases hb : bsHit (tK t) s.Told with
    | false =>
      rw [told_hit h] at hb
      rw [hb]
      rw [← told_hit h] at hb
      unfold outT
      simp [told_no h t hb]
    | true =>
      have e := told_at h t hb
      rw [told_hit h] at hb
      rw [hb]
      unfold outT
      simp [e]
end Go.Proofs.YtgkghkcahepicaaGreat
