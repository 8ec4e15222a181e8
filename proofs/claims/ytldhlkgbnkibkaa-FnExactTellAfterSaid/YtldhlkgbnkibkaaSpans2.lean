/-
  What the program's and the reference's functions on times, spans and clocks give.
  No condition.
-/
import Derived.Test.YtldhlkgbnkibkaaSpans
import Derived.Test.YtldhlkgbnkibkaaProg
import Derived.KernelRfl
namespace Go.Proofs.Ytldhlkgbnkibkaa
open Go.Ab
set_option linter.unusedSimpArgs false


def okAt (off now : Int) : Bool := inB (-5) off 5 && inB 0 now 100000
def lookV (a b : Int) : Int := if (okSpan a b && decide (b ≤ 100000)) = true then (if 1 > b then 1 else b) else 0
def waitN (off now t : Int) : Int := if 0 > t + 1 - (now + off - 5) then 0 else t + 1 - (now + off - 5)
def okWait (off now t : Int) : Bool := okAt off now && inB 0 t 100000 && decide (now + waitN off now t ≤ 100000)
theorem c_spec_l2At (off now : Int) (h : okAt off now = true) : PC Try.prog false 36 [.agg [.int .i64 off], .int .i64 now] (.agg [.int .i64 (now + off - 5), .int .i64 (now + off + 5)]) [] := by
  simp only [okAt, inB, Bool.and_eq_true, decide_eq_true_eq] at h
  refine pc_at Try.func36 rfl (by kernel_rfl) 16 [.cell 4 28] rfl rfl ?_
  repeat' (conv => whnf); first
    | refine nameB_true ?_
    | refine nameB_false ?_
    | refine nameB_intro (fun x hx => ?_)
    | refine splitB_true ?_
    | refine splitB_false ?_
    | (refine splitB_intro (fun h => ?_) (fun h => ?_) <;> subst h)
    | refine side_and (side_of (by and_intros <;> first | exact Nat.le_of_ble_eq_true rfl | rfl)) ?_
    | refine side_and ?_ ?_
    | refine LoadK_of rfl rfl ?_
  all_goals
    conv => whnf
    refine OutA_plain rfl rfl ?_
    have e1 : IntKind.i64.wrap (IntKind.i64.wrap (now + off) - 5) = now + off - 5 := by
      rw [i64_wrap (e := now + off) (by omega) (by omega), i64_wrap (by omega) (by omega)]
    have e2 : IntKind.i64.wrap (IntKind.i64.wrap (now + off) + 5) = now + off + 5 := by
      rw [i64_wrap (e := now + off) (by omega) (by omega), i64_wrap (by omega) (by omega)]
    show AV.agg [.int .i64 (IntKind.i64.wrap (IntKind.i64.wrap (now + off) - 5)), .int .i64 (IntKind.i64.wrap (IntKind.i64.wrap (now + off) + 5))] = AV.agg [.int .i64 (now + off - 5), .int .i64 (now + off + 5)]
    rw [e1, e2]
theorem c_impl_Clock_span (off now : Int) (h : okAt off now = true) : PC Try.prog false 38 [.agg [.int .i64 off], .int .i64 now] (.agg [.int .i64 (now + off - 5), .int .i64 (now + off + 5)]) [] := by
  simp only [okAt, inB, Bool.and_eq_true, decide_eq_true_eq] at h
  refine pc_at Try.func38 rfl (by kernel_rfl) 16 [.cell 4 28] rfl rfl ?_
  repeat' (conv => whnf); first
    | refine nameB_true ?_
    | refine nameB_false ?_
    | refine nameB_intro (fun x hx => ?_)
    | refine splitB_true ?_
    | refine splitB_false ?_
    | (refine splitB_intro (fun h => ?_) (fun h => ?_) <;> subst h)
    | refine side_and (side_of (by and_intros <;> first | exact Nat.le_of_ble_eq_true rfl | rfl)) ?_
    | refine side_and ?_ ?_
    | refine LoadK_of rfl rfl ?_
  all_goals
    conv => whnf
    refine OutA_plain rfl rfl ?_
    have e1 : IntKind.i64.wrap (IntKind.i64.wrap (now + off) - 5) = now + off - 5 := by
      rw [i64_wrap (e := now + off) (by omega) (by omega), i64_wrap (by omega) (by omega)]
    have e2 : IntKind.i64.wrap (IntKind.i64.wrap (now + off) + 5) = now + off + 5 := by
      rw [i64_wrap (e := now + off) (by omega) (by omega), i64_wrap (by omega) (by omega)]
    show AV.agg [.int .i64 (IntKind.i64.wrap (IntKind.i64.wrap (now + off) - 5)), .int .i64 (IntKind.i64.wrap (IntKind.i64.wrap (now + off) + 5))] = AV.agg [.int .i64 (now + off - 5), .int .i64 (now + off + 5)]
    rw [e1, e2]
theorem c_spec_l1Most (a b : Int) : PC Try.prog false 41 [.int .i64 a, .int .i64 b] (.int .i64 (if a > b then a else b)) [] := by
  refine pc_at Try.func41 rfl (by kernel_rfl) 10 [.tmp 4] rfl rfl ?_
  repeat' (conv => whnf); first
    | refine nameB_true ?_
    | refine nameB_false ?_
    | refine nameB_intro (fun x hx => ?_)
    | refine splitB_true ?_
    | refine splitB_false ?_
    | (refine splitB_intro (fun h => ?_) (fun h => ?_) <;> subst h)
    | refine side_and (side_of (by and_intros <;> first | exact Nat.le_of_ble_eq_true rfl | rfl)) ?_
    | refine side_and ?_ ?_
    | refine LoadK_of rfl rfl ?_
  all_goals
    conv => whnf
    refine OutA_plain rfl rfl ?_
    first
    | rfl
    | simp only [Named] at *
      first | done | (simp_all [named, AV.sub, AV.sub.subL]; done) | (simp_all [named, AV.sub, AV.sub.subL] <;> omega)
theorem c_spec_l14Look (a b : Int) : PC Try.prog false 39 [.agg [.int .i64 a, .int .i64 b]] (.int .i64 (if 1 > b then 1 else b)) [] := by
  refine pc_at Try.func39 rfl (by kernel_rfl) 6 [.tmp 2] rfl rfl ?_
  repeat' (conv => whnf); first
    | refine nameB_true ?_
    | refine nameB_false ?_
    | refine nameB_intro (fun x hx => ?_)
    | refine splitB_true ?_
    | refine splitB_false ?_
    | (refine splitB_intro (fun h => ?_) (fun h => ?_) <;> subst h)
    | refine side_and (side_of (by and_intros <;> first | exact Nat.le_of_ble_eq_true rfl | rfl)) ?_
    | refine side_and ?_ ?_
    | refine LoadK_of rfl rfl ?_
    | refine Call0 (c_spec_l1Most ..) rfl rfl ?_
  all_goals
    conv => whnf
    refine OutA_plain rfl rfl ?_
    first
    | rfl
    | simp only [Named] at *
      first | done | (simp_all [named, AV.sub, AV.sub.subL]; done) | (simp_all [named, AV.sub, AV.sub.subL] <;> omega)
theorem c_impl_ifTime (t : Int) : PC Try.prog false 40 [.int .i64 t] (.tup [.int .i64 (if t > 100000 then 0 else t), .bool (decide (t ≤ 100000))]) [] := by
  refine pc_at Try.func40 rfl (by kernel_rfl) 7 [.tmp 2, .tmp 3] rfl rfl ?_
  repeat' (conv => whnf); first
    | refine nameB_true ?_
    | refine nameB_false ?_
    | refine nameB_intro (fun x hx => ?_)
    | refine splitB_true ?_
    | refine splitB_false ?_
    | (refine splitB_intro (fun h => ?_) (fun h => ?_) <;> subst h)
    | refine side_and (side_of (by and_intros <;> first | exact Nat.le_of_ble_eq_true rfl | rfl)) ?_
    | refine side_and ?_ ?_
    | refine LoadK_of rfl rfl ?_
  all_goals
    conv => whnf
    refine OutA_plain rfl rfl ?_
    first
    | rfl
    | simp only [Named] at *
      first | done | (simp_all [named, AV.sub, AV.sub.subL]; done) | (simp_all [named, AV.sub, AV.sub.subL] <;> omega)
theorem c_spec_LookTime (a b : Int) : PC Try.prog false 19 [.agg [.int .i64 a, .int .i64 b]] (.tup [.int .i64 (lookV a b), .bool (okSpan a b && decide (b ≤ 100000))]) [] := by
  refine pc_at Try.func19 rfl (by kernel_rfl) 14 [.tmp 2, .tmp 3] rfl rfl ?_
  repeat' (conv => whnf); first
    | refine nameB_true ?_
    | refine nameB_false ?_
    | refine nameB_intro (fun x hx => ?_)
    | refine splitB_true ?_
    | refine splitB_false ?_
    | (refine splitB_intro (fun h => ?_) (fun h => ?_) <;> subst h)
    | refine side_and (side_of (by and_intros <;> first | exact Nat.le_of_ble_eq_true rfl | rfl)) ?_
    | refine side_and ?_ ?_
    | refine LoadK_of rfl rfl ?_
    | refine Call0 (c_spec_l2Span ..) rfl rfl ?_
    | refine Call0 (c_spec_l14Look ..) rfl rfl ?_
  all_goals
    conv => whnf
    refine OutA_plain rfl rfl ?_
    simp only [Named, lookV] at *
    by_cases hb : 1 > b <;> by_cases hc : b ≤ 100000 <;> simp_all [named, AV.sub, AV.sub.subL] <;> omega
theorem c_impl_LookTime (a b : Int) : PC Try.prog false 20 [.agg [.int .i64 a, .int .i64 b]] (.tup [.int .i64 (lookV a b), .bool (okSpan a b && decide (b ≤ 100000))]) [] := by
  refine pc_at Try.func20 rfl (by kernel_rfl) 13 [.tmp 2, .tmp 3] rfl rfl ?_
  repeat' (conv => whnf); first
    | refine nameB_true ?_
    | refine nameB_false ?_
    | refine nameB_intro (fun x hx => ?_)
    | refine splitB_true ?_
    | refine splitB_false ?_
    | (refine splitB_intro (fun h => ?_) (fun h => ?_) <;> subst h)
    | refine side_and (side_of (by and_intros <;> first | exact Nat.le_of_ble_eq_true rfl | rfl)) ?_
    | refine side_and ?_ ?_
    | refine LoadK_of rfl rfl ?_
    | refine Call0 (c_impl_GoodSpan ..) rfl rfl ?_
    | refine Call0 (c_impl_ifTime ..) rfl rfl ?_
  all_goals
    conv => whnf
    refine OutA_plain rfl rfl ?_
    simp only [Named, lookV] at *
    by_cases hb : 1 > b <;> by_cases hc : b ≤ 100000 <;> simp_all [named, AV.sub, AV.sub.subL] <;> omega
theorem c_laws_FnExactLookTime (a b : Int) : PC Try.prog false 6 [.agg [.int .i64 a, .int .i64 b]] (.bool true) [] := by
  refine pc_at Try.func6 rfl (by kernel_rfl) 27 [.tmp 2] rfl rfl ?_
  repeat' (conv => whnf); first
    | refine nameB_true ?_
    | refine nameB_false ?_
    | refine nameB_intro (fun x hx => ?_)
    | refine splitB_true ?_
    | refine splitB_false ?_
    | (refine splitB_intro (fun h => ?_) (fun h => ?_) <;> subst h)
    | refine side_and (side_of (by and_intros <;> first | exact Nat.le_of_ble_eq_true rfl | rfl)) ?_
    | refine side_and ?_ ?_
    | refine LoadK_of rfl rfl ?_
    | refine Call0 (c_laws_toSpan ..) rfl rfl ?_
    | refine Call0 (c_spec_LookTime ..) rfl rfl ?_
    | refine Call0 (c_impl_LookTime ..) rfl rfl ?_
  all_goals
    conv => whnf
    refine OutA_plain rfl rfl ?_
    first
    | rfl
    | simp only [Named] at *
      first | done | (simp_all [named, AV.sub, AV.sub.subL]; done) | (simp_all [named, AV.sub, AV.sub.subL] <;> omega)
theorem c_spec_SpanAt (off now : Int) : PC Try.prog false 15 [.agg [.int .i64 off], .int .i64 now] (.tup [.agg [.int .i64 (if okAt off now = true then now + off - 5 else 0), .int .i64 (if okAt off now = true then now + off + 5 else 0)], .bool (okAt off now)]) [] := by
  refine pc_at Try.func15 rfl (by kernel_rfl) 18 [.cell 4 28, .tmp 5] rfl rfl ?_
  repeat' (conv => whnf); first
    | refine nameB_true ?_
    | refine nameB_false ?_
    | refine nameB_intro (fun x hx => ?_)
    | refine splitB_true ?_
    | refine splitB_false ?_
    | (refine splitB_intro (fun h => ?_) (fun h => ?_) <;> subst h)
    | refine side_and (side_of (by and_intros <;> first | exact Nat.le_of_ble_eq_true rfl | rfl)) ?_
    | refine side_and ?_ ?_
    | refine LoadK_of rfl rfl ?_
    | refine Call0 (c_spec_l2At _ _ (by simp_all [okAt, Named])) rfl rfl ?_
    | refine Call0 (c_spec_l2Clock ..) rfl rfl ?_
    | refine Call0 (c_spec_l2True ..) rfl rfl ?_
    | refine Call0 (c_spec_l2At ..) rfl rfl ?_
  all_goals
    conv => whnf
    refine OutA_plain rfl rfl ?_
    simp only [Named] at *
    have hok : okAt off now = true ∨ okAt off now = false := by cases okAt off now <;> simp
    rcases hok with hok | hok <;> simp only [hok] <;> first | rfl | (simp_all [okAt]; done)
theorem c_impl_SpanAt (off now : Int) : PC Try.prog false 17 [.agg [.int .i64 off], .int .i64 now] (.tup [.agg [.int .i64 (if okAt off now = true then now + off - 5 else 0), .int .i64 (if okAt off now = true then now + off + 5 else 0)], .bool (okAt off now)]) [] := by
  refine pc_at Try.func17 rfl (by kernel_rfl) 18 [.cell 4 28, .tmp 5] rfl rfl ?_
  repeat' (conv => whnf); first
    | refine nameB_true ?_
    | refine nameB_false ?_
    | refine nameB_intro (fun x hx => ?_)
    | refine splitB_true ?_
    | refine splitB_false ?_
    | (refine splitB_intro (fun h => ?_) (fun h => ?_) <;> subst h)
    | refine side_and (side_of (by and_intros <;> first | exact Nat.le_of_ble_eq_true rfl | rfl)) ?_
    | refine side_and ?_ ?_
    | refine LoadK_of rfl rfl ?_
    | refine Call0 (c_impl_Clock_span _ _ (by simp_all [okAt, Named])) rfl rfl ?_
    | refine Call0 (c_impl_GoodClock ..) rfl rfl ?_
    | refine Call0 (c_impl_isTrue ..) rfl rfl ?_
    | refine Call0 (c_impl_Clock_span ..) rfl rfl ?_
  all_goals
    conv => whnf
    refine OutA_plain rfl rfl ?_
    simp only [Named] at *
    have hok : okAt off now = true ∨ okAt off now = false := by cases okAt off now <;> simp
    rcases hok with hok | hok <;> simp only [hok] <;> first | rfl | (simp_all [okAt]; done)
theorem c_laws_FnExactSpanAt (off now : Int) : PC Try.prog false 5 [.agg [.int .i64 off], .int .i64 now] (.bool true) [] := by
  refine pc_at Try.func5 rfl (by kernel_rfl) 32 [.tmp 4] rfl rfl ?_
  repeat' (conv => whnf); first
    | refine nameB_true ?_
    | refine nameB_false ?_
    | refine nameB_intro (fun x hx => ?_)
    | refine splitB_true ?_
    | refine splitB_false ?_
    | (refine splitB_intro (fun h => ?_) (fun h => ?_) <;> subst h)
    | refine side_and (side_of (by and_intros <;> first | exact Nat.le_of_ble_eq_true rfl | rfl)) ?_
    | refine side_and ?_ ?_
    | refine LoadK_of rfl rfl ?_
    | refine Call0 (c_laws_toClock ..) rfl rfl ?_
    | refine Call0 (c_spec_SpanAt ..) rfl rfl ?_
    | refine Call0 (c_impl_SpanAt ..) rfl rfl ?_
    | refine Call0 (c_laws_eqSpan ..) rfl rfl ?_
  all_goals
    conv => whnf
    refine OutA_plain rfl rfl ?_
    first
    | rfl
    | simp only [Named] at *
      first | done | (simp_all [named, AV.sub, AV.sub.subL]; done) | (simp_all [named, AV.sub, AV.sub.subL] <;> omega)
end Go.Proofs.Ytldhlkgbnkibkaa
