/-
  What the program's and the reference's functions on telling times give.
  No condition.
-/
import Derived.Test.YtldhlkgbnkibkaaSpans4
import Derived.Test.YtldhlkgbnkibkaaProg
import Derived.KernelRfl
namespace Go.Proofs.Ytldhlkgbnkibkaa
open Go.Ab
set_option linter.unusedSimpArgs false

def okTell (off now t : Int) : Bool := okWait off now t && inB 1 t 100000
theorem tell_sum {off now t : Int} (h : okWait off now t = true) : IntKind.i64.wrap (now + waitN off now t) = now + waitN off now t := by
  simp only [okWait, Bool.and_eq_true] at h
  exact wait_sum h.1.1 h.1.2
theorem c_spec_TellAfter (off now t : Int) : PC Try.prog false 23 [.agg [.int .i64 off], .int .i64 now, .int .i64 t] (.tup [.int .i64 (if okTell off now t = true then now + waitN off now t else 0), .bool (okTell off now t)]) [] := by
  cases h1 : okWait off now t <;> cases h2 : inB 1 t 100000
  case true.true =>
    have e1 := tell_sum h1
    refine pc_at Try.func23 rfl (by kernel_rfl) 25 [.tmp 6, .tmp 7] rfl rfl ?_
    repeat' (conv => whnf); first
      | refine nameB_true ?_
      | refine nameB_false ?_
      | refine nameB_intro (fun x hx => ?_)
      | refine splitB_true ?_
      | refine splitB_false ?_
      | (refine splitB_intro (fun h => ?_) (fun h => ?_) <;> subst h)
      | refine side_and (side_of (by and_intros <;> first | exact Nat.le_of_ble_eq_true rfl | rfl)) ?_
      | refine side_and ?_ ?_
      | refine LoadK_of rfl rfl ?_
      | refine Call0 (c_spec_l3Time ..) rfl rfl ?_
      | refine Call0 (c_spec_WaitFor ..) rfl rfl ?_
    all_goals
      conv => whnf
      refine OutA_plain rfl rfl ?_
      simp only [Named, okTell] at *
      simp_all [named, AV.sub, AV.sub.subL]
  all_goals
    refine pc_at Try.func23 rfl (by kernel_rfl) 25 [.tmp 6, .tmp 7] rfl rfl ?_
    repeat' (conv => whnf); first
      | refine nameB_true ?_
      | refine nameB_false ?_
      | refine nameB_intro (fun x hx => ?_)
      | refine splitB_true ?_
      | refine splitB_false ?_
      | (refine splitB_intro (fun h => ?_) (fun h => ?_) <;> subst h)
      | refine side_and (side_of (by and_intros <;> first | exact Nat.le_of_ble_eq_true rfl | rfl)) ?_
      | refine side_and ?_ ?_
      | refine LoadK_of rfl rfl ?_
      | refine Call0 (c_spec_l3Time ..) rfl rfl ?_
      | refine Call0 (c_spec_WaitFor ..) rfl rfl ?_
    all_goals
      conv => whnf
      refine OutA_plain rfl rfl ?_
      simp only [Named, okTell] at *
      simp_all [named, AV.sub, AV.sub.subL]
theorem c_impl_TellAfter (off now t : Int) : PC Try.prog false 24 [.agg [.int .i64 off], .int .i64 now, .int .i64 t] (.tup [.int .i64 (if okTell off now t = true then now + waitN off now t else 0), .bool (okTell off now t)]) [] := by
  cases h1 : okWait off now t <;> cases h2 : inB 1 t 100000
  case true.true =>
    have e1 := tell_sum h1
    refine pc_at Try.func24 rfl (by kernel_rfl) 27 [.tmp 6, .tmp 7] rfl rfl ?_
    repeat' (conv => whnf); first
      | refine nameB_true ?_
      | refine nameB_false ?_
      | refine nameB_intro (fun x hx => ?_)
      | refine splitB_true ?_
      | refine splitB_false ?_
      | (refine splitB_intro (fun h => ?_) (fun h => ?_) <;> subst h)
      | refine side_and (side_of (by and_intros <;> first | exact Nat.le_of_ble_eq_true rfl | rfl)) ?_
      | refine side_and ?_ ?_
      | refine LoadK_of rfl rfl ?_
      | refine Call0 (c_impl_WaitFor ..) rfl rfl ?_
      | refine Call0 (c_impl_isTime ..) rfl rfl ?_
    all_goals
      conv => whnf
      refine OutA_plain rfl rfl ?_
      simp only [Named, okTell] at *
      simp_all [named, AV.sub, AV.sub.subL]
  all_goals
    refine pc_at Try.func24 rfl (by kernel_rfl) 27 [.tmp 6, .tmp 7] rfl rfl ?_
    repeat' (conv => whnf); first
      | refine nameB_true ?_
      | refine nameB_false ?_
      | refine nameB_intro (fun x hx => ?_)
      | refine splitB_true ?_
      | refine splitB_false ?_
      | (refine splitB_intro (fun h => ?_) (fun h => ?_) <;> subst h)
      | refine side_and (side_of (by and_intros <;> first | exact Nat.le_of_ble_eq_true rfl | rfl)) ?_
      | refine side_and ?_ ?_
      | refine LoadK_of rfl rfl ?_
      | refine Call0 (c_impl_WaitFor ..) rfl rfl ?_
      | refine Call0 (c_impl_isTime ..) rfl rfl ?_
    all_goals
      conv => whnf
      refine OutA_plain rfl rfl ?_
      simp only [Named, okTell] at *
      simp_all [named, AV.sub, AV.sub.subL]
theorem c_laws_FnExactTellAfter (off now t : Int) : PC Try.prog false 8 [.agg [.int .i64 off], .int .i64 now, .int .i64 t] (.bool true) [] := by
  refine pc_at Try.func8 rfl (by kernel_rfl) 35 [.tmp 6] rfl rfl ?_
  repeat' (conv => whnf); first
    | refine nameB_true ?_
    | refine nameB_false ?_
    | refine nameB_intro (fun x hx => ?_)
    | refine splitB_true ?_
    | refine splitB_false ?_
    | (refine splitB_intro (fun h => ?_) (fun h => ?_) <;> subst h)
    | refine side_and (side_of (by and_intros <;> first | exact Nat.le_of_ble_eq_true rfl | rfl)) ?_
    | refine side_and ?_ ?_
    | refine LoadK_of rfl rfl ?_
    | refine Call0 (c_laws_toClock ..) rfl rfl ?_
    | refine Call0 (c_spec_TellAfter ..) rfl rfl ?_
    | refine Call0 (c_impl_TellAfter ..) rfl rfl ?_
  all_goals
    conv => whnf
    refine OutA_plain rfl rfl ?_
    first
    | rfl
    | simp only [Named] at *
      first | done | (simp_all [named, AV.sub, AV.sub.subL]; done) | (simp_all [named, AV.sub, AV.sub.subL] <;> omega)
end Go.Proofs.Ytldhlkgbnkibkaa
