/-
  What the program's and the reference's functions on waiting give.
  No condition.
-/
import Derived.Test.YtldhlkgbnkibkaaSpans2
import Derived.Test.YtldhlkgbnkibkaaProg
import Derived.KernelRfl
namespace Go.Proofs.Ytldhlkgbnkibkaa
open Go.Ab
set_option linter.unusedSimpArgs false

theorem okAt_spec {off now : Int} (h : okAt off now = true) : -5 ≤ off ∧ off ≤ 5 ∧ 0 ≤ now ∧ now ≤ 100000 := by
  simp only [okAt, inB, Bool.and_eq_true, decide_eq_true_eq] at h
  omega
theorem inB_spec {a n b : Int} (h : inB a n b = true) : a ≤ n ∧ n ≤ b := by
  simpa only [inB, Bool.and_eq_true, decide_eq_true_eq] using h
theorem wait_wrap {off now t : Int} (h : okAt off now = true) (ht : inB 0 t 100000 = true) : IntKind.i64.wrap (IntKind.i64.wrap (t + 1) - (now + off - 5)) = t + 1 - (now + off - 5) := by
  have := okAt_spec h
  have := inB_spec ht
  rw [i64_wrap (e := t + 1) (by omega) (by omega), i64_wrap (by omega) (by omega)]
theorem wait_sum {off now t : Int} (h : okAt off now = true) (ht : inB 0 t 100000 = true) : IntKind.i64.wrap (now + waitN off now t) = now + waitN off now t := by
  have := okAt_spec h
  have := inB_spec ht
  unfold waitN
  split <;> rw [i64_wrap (by omega) (by omega)]
theorem c_spec_WaitFor (off now t : Int) : PC Try.prog false 21 [.agg [.int .i64 off], .int .i64 now, .int .i64 t] (.tup [.int .i64 (if okWait off now t = true then waitN off now t else 0), .bool (okWait off now t)]) [] := by
  cases h1 : okAt off now <;> cases h2 : inB 0 t 100000
  case true.true =>
    have e1 := wait_wrap h1 h2
    have e2 := wait_sum h1 h2
    have h3 := h1
    simp only [okAt, Bool.and_eq_true] at h3
    refine pc_at Try.func21 rfl (by kernel_rfl) 35 [.tmp 6, .tmp 7] rfl rfl ?_
    repeat' (conv => whnf); first
      | refine nameB_true ?_
      | refine nameB_false ?_
      | refine nameB_intro (fun x hx => ?_)
      | refine splitB_true ?_
      | refine splitB_false ?_
      | (refine splitB_intro (fun h => ?_) (fun h => ?_) <;> subst h)
      | refine side_and (side_of (by and_intros <;> first | exact Nat.le_of_ble_eq_true rfl | rfl)) ?_
      | refine side_and ?_ ?_
      | refine LoadK_of rfl rfl ?_
      | refine Call0 (c_spec_l2At _ _ h1) rfl rfl ?_
      | refine Call0 (c_spec_l2Clock ..) rfl rfl ?_
      | refine Call0 (c_spec_l2True ..) rfl rfl ?_
      | refine Call0 (c_spec_l2At ..) rfl rfl ?_
      | refine Call0 (c_spec_l1Most ..) rfl rfl ?_
    all_goals
      conv => whnf
      refine OutA_plain rfl rfl ?_
      simp only [Named, okWait] at *
      simp_all [named, AV.sub, AV.sub.subL, waitN] <;> omega
  all_goals
    have h3 := h1
    simp only [okAt] at h3
    refine pc_at Try.func21 rfl (by kernel_rfl) 35 [.tmp 6, .tmp 7] rfl rfl ?_
    repeat' (conv => whnf); first
      | refine nameB_true ?_
      | refine nameB_false ?_
      | refine nameB_intro (fun x hx => ?_)
      | refine splitB_true ?_
      | refine splitB_false ?_
      | (refine splitB_intro (fun h => ?_) (fun h => ?_) <;> subst h)
      | refine side_and (side_of (by and_intros <;> first | exact Nat.le_of_ble_eq_true rfl | rfl)) ?_
      | refine side_and ?_ ?_
      | refine LoadK_of rfl rfl ?_
      | refine Call0 (c_spec_l2At _ _ (by simp_all [okAt, Named])) rfl rfl ?_
      | refine Call0 (c_spec_l2Clock ..) rfl rfl ?_
      | refine Call0 (c_spec_l2True ..) rfl rfl ?_
      | refine Call0 (c_spec_l2At ..) rfl rfl ?_
      | refine Call0 (c_spec_l1Most ..) rfl rfl ?_
    all_goals
      conv => whnf
      refine OutA_plain rfl rfl ?_
      simp only [Named, okWait] at *
      simp_all [named, AV.sub, AV.sub.subL]
theorem c_impl_WaitFor (off now t : Int) : PC Try.prog false 22 [.agg [.int .i64 off], .int .i64 now, .int .i64 t] (.tup [.int .i64 (if okWait off now t = true then waitN off now t else 0), .bool (okWait off now t)]) [] := by
  cases h1 : okAt off now <;> cases h2 : inB 0 t 100000
  case true.true =>
    have e1 := wait_wrap h1 h2
    have e2 := wait_sum h1 h2
    have e3 : (if t + 1 - (now + off - 5) > 0 then t + 1 - (now + off - 5) else 0) = waitN off now t := by
      unfold waitN
      split <;> split <;> omega
    have h3 := h1
    simp only [okAt, Bool.and_eq_true] at h3
    refine pc_at Try.func22 rfl (by kernel_rfl) 35 [.tmp 6, .tmp 7] rfl rfl ?_
    repeat' (conv => whnf); first
      | refine nameB_true ?_
      | refine nameB_false ?_
      | refine nameB_intro (fun x hx => ?_)
      | refine splitB_true ?_
      | refine splitB_false ?_
      | (refine splitB_intro (fun h => ?_) (fun h => ?_) <;> subst h)
      | refine side_and (side_of (by and_intros <;> first | exact Nat.le_of_ble_eq_true rfl | rfl)) ?_
      | refine side_and ?_ ?_
      | refine LoadK_of rfl rfl ?_
      | refine Call0 (c_impl_Clock_span _ _ h1) rfl rfl ?_
      | refine Call0 (c_impl_GoodClock ..) rfl rfl ?_
      | refine Call0 (c_impl_isTrue ..) rfl rfl ?_
      | refine Call0 (c_impl_Clock_span ..) rfl rfl ?_
    all_goals
      conv => whnf
      refine OutA_plain rfl rfl ?_
      simp only [Named, okWait] at *
      first | (rw [e1, e3, e2] at *; simp_all [named, AV.sub, AV.sub.subL]; done) | (simp only [e1, e3, e2] at *; simp_all [named, AV.sub, AV.sub.subL]; done) | (simp only [e1, e3, e2] at *; simp_all [named, AV.sub, AV.sub.subL] <;> omega)
  all_goals
    have h3 := h1
    simp only [okAt] at h3
    refine pc_at Try.func22 rfl (by kernel_rfl) 35 [.tmp 6, .tmp 7] rfl rfl ?_
    repeat' (conv => whnf); first
      | refine nameB_true ?_
      | refine nameB_false ?_
      | refine nameB_intro (fun x hx => ?_)
      | refine splitB_true ?_
      | refine splitB_false ?_
      | (refine splitB_intro (fun h => ?_) (fun h => ?_) <;> subst h)
      | refine side_and (side_of (by and_intros <;> first | exact Nat.le_of_ble_eq_true rfl | rfl)) ?_
      | refine side_and ?_ ?_
      | refine LoadK_of rfl rfl ?_
      | refine Call0 (c_impl_Clock_span _ _ (by simp_all [okAt, Named])) rfl rfl ?_
      | refine Call0 (c_impl_GoodClock ..) rfl rfl ?_
      | refine Call0 (c_impl_isTrue ..) rfl rfl ?_
      | refine Call0 (c_impl_Clock_span ..) rfl rfl ?_
    all_goals
      conv => whnf
      refine OutA_plain rfl rfl ?_
      simp only [Named, okWait] at *
      simp_all [named, AV.sub, AV.sub.subL]
theorem c_laws_FnExactWaitFor (off now t : Int) : PC Try.prog false 7 [.agg [.int .i64 off], .int .i64 now, .int .i64 t] (.bool true) [] := by
  refine pc_at Try.func7 rfl (by kernel_rfl) 35 [.tmp 6] rfl rfl ?_
  repeat' (conv => whnf); first
    | refine nameB_true ?_
    | refine nameB_false ?_
    | refine nameB_intro (fun x hx => ?_)
    | refine splitB_true ?_
    | refine splitB_false ?_
    | (refine splitB_intro (fun h => ?_) (fun h => ?_) <;> subst h)
    | refine side_and (side_of (by and_intros <;> first | exact Nat.le_of_ble_eq_true rfl | rfl)) ?_
    | refine side_and ?_ ?_
    | refine LoadK_of rfl rfl ?_
    | refine Call0 (c_laws_toClock ..) rfl rfl ?_
    | refine Call0 (c_spec_WaitFor ..) rfl rfl ?_
    | refine Call0 (c_impl_WaitFor ..) rfl rfl ?_
  all_goals
    conv => whnf
    refine OutA_plain rfl rfl ?_
    first
    | rfl
    | simp only [Named] at *
      first | done | (simp_all [named, AV.sub, AV.sub.subL]; done) | (simp_all [named, AV.sub, AV.sub.subL] <;> omega)
end Go.Proofs.Ytldhlkgbnkibkaa
