/-
  The laws on states return true.
  No condition.
-/
import Derived.Test.YtpbabdnbbpgejaaState10
namespace Go.Proofs.Ytpbabdnbbpgejaa
open Go.Ab
set_option linter.unusedSimpArgs false
set_option maxRecDepth 20000
set_option maxHeartbeats 4000000
set_option linter.unusedVariables false

def mostP (s : StateT) (p : Int) : Int := if s.Floor > p then s.Floor else p
def pB (s : StateT) (p : Int) : Bool := okStateS s && inB 0 p 100000 && !(mostP s p == 100000)
def pT (s : StateT) (p : Int) : Int := if pB s p = true then IntKind.i64.wrap (mostP s p + 1) else 0
theorem prep_eq (s : StateT) (p : Int) : ifT (okStateI s && inB 0 p 100000) (prepT s p) = pT s p ∧ ifO (okStateI s && inB 0 p 100000) (prepT s p) = pB s p := by
  unfold ifT ifO pT pB
  rw [← okState_eq]
  cases h : okStateI s with
  | false => simp
  | true =>
    cases h2 : inB 0 p 100000 with
    | false => simp
    | true =>
      have h3 := floor_of h
      have h4 := inBB h2
      simp only [Bool.true_and, if_true, Bool.not_eq_true']
      have e : prepT s p = mostP s p + 1 := by
        unfold prepT mostP
        rw [i64_wrap (by split <;> omega) (by split <;> omega)]
        split <;> split <;> omega
      have e2 : 0 ≤ mostP s p ∧ mostP s p ≤ 100000 := by unfold mostP; split <;> omega
      rw [e]
      by_cases e3 : mostP s p = 100000
      · rw [e3]; simp
      · have e4 : ¬ mostP s p + 1 > 100000 := by omega
        have e5 : (mostP s p == 100000) = false := beq_eq_false_iff_ne.2 e3
        rw [if_neg e4, e5, decide_eq_false e4, i64_wrap (by omega) (by omega)]
        simp
theorem out_eq (s : StateT) (t : Int) : outT (okStateI s && bsHit (tK t) s.Told) (toldAt s t) = outT (okStateS s) (toldS s t) ∧ (okStateI s && bsHit (tK t) s.Told) = (okStateS s && (s.Told.find? (tEq t)).isSome) := by
  rw [← okState_eq]
  cases h : okStateI s with
  | false => exact ⟨rfl, rfl⟩
  | true =>
    rw [told_hit h]
    refine ⟨?_, rfl⟩
    cases hb : bsHit (tK t) s.Told with
    | false =>
      rw [told_hit h] at hb
      rw [hb]
      rw [← told_hit h] at hb
      unfold outT
      simp [told_no h t hb]
    | true =>
      have e := told_at h t hb
      rw [told_hit h] at hb
      rw [hb]
      unfold outT
      simp [e]
def lT (s : StateT) (x : SpanT) : Int := if 1 > (if IntKind.i64.wrap (s.Floor + 1) > IntKind.i64.wrap (x.High + 10) then IntKind.i64.wrap (s.Floor + 1) else IntKind.i64.wrap (x.High + 10)) then 1 else (if IntKind.i64.wrap (s.Floor + 1) > IntKind.i64.wrap (x.High + 10) then IntKind.i64.wrap (s.Floor + 1) else IntKind.i64.wrap (x.High + 10))
def lB (s : StateT) (x : SpanT) : Bool := okStateS s && okSpan6 x && !decide (lT s x > 100000)
def lV (s : StateT) (x : SpanT) : Int := if lB s x = true then lT s x else 0
theorem lead_eq (s : StateT) (x : SpanT) : ifT (okStateI s && okSpan6 x) (leadT1 s x) = lV s x ∧ ifO (okStateI s && okSpan6 x) (leadT1 s x) = lB s x := by
  unfold ifT ifO lV lB
  rw [← okState_eq]
  cases h : okStateI s with
  | false => simp
  | true =>
    cases h2 : okSpan6 x with
    | false => simp
    | true =>
      have e : leadT1 s x = lT s x := by
        unfold leadT1 leadT lT
        split <;> split <;> split <;> first | rfl | omega | (split <;> first | rfl | omega)
      rw [e]
      simp only [Bool.true_and, if_true]
      by_cases e4 : lT s x > 100000
      · rw [if_pos e4, decide_eq_true e4]; simp
      · rw [if_neg e4, decide_eq_false e4]; simp
end Go.Proofs.Ytpbabdnbbpgejaa
