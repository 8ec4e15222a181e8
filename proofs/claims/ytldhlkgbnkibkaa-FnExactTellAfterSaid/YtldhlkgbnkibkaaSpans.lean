/-
  What the program's and the reference's functions on times, spans and clocks give.
  No condition.
-/
import Derived.Test.YtldhlkgbnkibkaaAb16
import Derived.Test.YtldhlkgbnkibkaaProg
import Derived.KernelRfl
namespace Go.Proofs.Ytldhlkgbnkibkaa
open Go.Ab
set_option linter.unusedSimpArgs false

def inB (a n b : Int) : Bool := decide (a ≤ n) && decide (n ≤ b)
def okSpan (lo hi : Int) : Bool := decide (lo ≤ hi) && decide (-10 ≤ lo) && decide (hi ≤ 100010)

theorem c_impl_within (n a b : Int) : PC Try.prog false 45 [.int .i64 n, .int .i64 a, .int .i64 b] (.bool (inB a n b)) [] := by
  refine pc_at Try.func45 rfl (by kernel_rfl) 15 [.tmp 6] rfl rfl ?_
  repeat' (conv => whnf); first
    | refine nameB_true ?_
    | refine nameB_false ?_
    | refine nameB_intro (fun x hx => ?_)
    | refine splitB_true ?_
    | refine splitB_false ?_
    | (refine splitB_intro (fun h => ?_) (fun h => ?_) <;> subst h)
    | refine side_and (side_of (by and_intros <;> first | exact Nat.le_of_ble_eq_true rfl | rfl)) ?_
    | refine side_and ?_ ?_
    | refine LoadK_of rfl rfl ?_
  all_goals
    conv => whnf
    refine OutA_plain rfl rfl ?_
    first
    | rfl
    | simp only [Named, inB] at *
      first | done | (simp_all [named, AV.sub, AV.sub.subL]; done) | (simp_all [named, AV.sub, AV.sub.subL] <;> omega)
theorem c_impl_isTrue (n : Int) : PC Try.prog false 30 [.int .i64 n] (.bool (inB 0 n 100000)) [] := by
  refine pc_at Try.func30 rfl (by kernel_rfl) 5 [.tmp 2] rfl rfl ?_
  repeat' (conv => whnf); first
    | refine nameB_true ?_
    | refine nameB_false ?_
    | refine nameB_intro (fun x hx => ?_)
    | refine splitB_true ?_
    | refine splitB_false ?_
    | (refine splitB_intro (fun h => ?_) (fun h => ?_) <;> subst h)
    | refine side_and (side_of (by and_intros <;> first | exact Nat.le_of_ble_eq_true rfl | rfl)) ?_
    | refine side_and ?_ ?_
    | refine LoadK_of rfl rfl ?_
    | refine Call0 (c_impl_within ..) rfl rfl ?_
  all_goals
    conv => whnf
    refine OutA_plain rfl rfl ?_
    first
    | rfl
    | simp only [Named, inB] at *
      first | done | (simp_all [named, AV.sub, AV.sub.subL]; done) | (simp_all [named, AV.sub, AV.sub.subL] <;> omega)
theorem c_impl_isTime (n : Int) : PC Try.prog false 34 [.int .i64 n] (.bool (inB 1 n 100000)) [] := by
  refine pc_at Try.func34 rfl (by kernel_rfl) 5 [.tmp 2] rfl rfl ?_
  repeat' (conv => whnf); first
    | refine nameB_true ?_
    | refine nameB_false ?_
    | refine nameB_intro (fun x hx => ?_)
    | refine splitB_true ?_
    | refine splitB_false ?_
    | (refine splitB_intro (fun h => ?_) (fun h => ?_) <;> subst h)
    | refine side_and (side_of (by and_intros <;> first | exact Nat.le_of_ble_eq_true rfl | rfl)) ?_
    | refine side_and ?_ ?_
    | refine LoadK_of rfl rfl ?_
    | refine Call0 (c_impl_within ..) rfl rfl ?_
  all_goals
    conv => whnf
    refine OutA_plain rfl rfl ?_
    first
    | rfl
    | simp only [Named, inB] at *
      first | done | (simp_all [named, AV.sub, AV.sub.subL]; done) | (simp_all [named, AV.sub, AV.sub.subL] <;> omega)
theorem c_spec_l1In (n a b : Int) : PC Try.prog false 42 [.int .i64 n, .int .i64 a, .int .i64 b] (.bool (inB a n b)) [] := by
  refine pc_at Try.func42 rfl (by kernel_rfl) 15 [.tmp 6] rfl rfl ?_
  repeat' (conv => whnf); first
    | refine nameB_true ?_
    | refine nameB_false ?_
    | refine nameB_intro (fun x hx => ?_)
    | refine splitB_true ?_
    | refine splitB_false ?_
    | (refine splitB_intro (fun h => ?_) (fun h => ?_) <;> subst h)
    | refine side_and (side_of (by and_intros <;> first | exact Nat.le_of_ble_eq_true rfl | rfl)) ?_
    | refine side_and ?_ ?_
    | refine LoadK_of rfl rfl ?_
  all_goals
    conv => whnf
    refine OutA_plain rfl rfl ?_
    first
    | rfl
    | simp only [Named, inB] at *
      first | done | (simp_all [named, AV.sub, AV.sub.subL]; done) | (simp_all [named, AV.sub, AV.sub.subL] <;> omega)
theorem c_spec_l2True (n : Int) : PC Try.prog false 29 [.int .i64 n] (.bool (inB 0 n 100000)) [] := by
  refine pc_at Try.func29 rfl (by kernel_rfl) 5 [.tmp 2] rfl rfl ?_
  repeat' (conv => whnf); first
    | refine nameB_true ?_
    | refine nameB_false ?_
    | refine nameB_intro (fun x hx => ?_)
    | refine splitB_true ?_
    | refine splitB_false ?_
    | (refine splitB_intro (fun h => ?_) (fun h => ?_) <;> subst h)
    | refine side_and (side_of (by and_intros <;> first | exact Nat.le_of_ble_eq_true rfl | rfl)) ?_
    | refine side_and ?_ ?_
    | refine LoadK_of rfl rfl ?_
    | refine Call0 (c_spec_l1In ..) rfl rfl ?_
  all_goals
    conv => whnf
    refine OutA_plain rfl rfl ?_
    first
    | rfl
    | simp only [Named, inB] at *
      first | done | (simp_all [named, AV.sub, AV.sub.subL]; done) | (simp_all [named, AV.sub, AV.sub.subL] <;> omega)
theorem c_spec_l3Time (n : Int) : PC Try.prog false 32 [.int .i64 n] (.bool (inB 1 n 100000)) [] := by
  refine pc_at Try.func32 rfl (by kernel_rfl) 5 [.tmp 2] rfl rfl ?_
  repeat' (conv => whnf); first
    | refine nameB_true ?_
    | refine nameB_false ?_
    | refine nameB_intro (fun x hx => ?_)
    | refine splitB_true ?_
    | refine splitB_false ?_
    | (refine splitB_intro (fun h => ?_) (fun h => ?_) <;> subst h)
    | refine side_and (side_of (by and_intros <;> first | exact Nat.le_of_ble_eq_true rfl | rfl)) ?_
    | refine side_and ?_ ?_
    | refine LoadK_of rfl rfl ?_
    | refine Call0 (c_spec_l1In ..) rfl rfl ?_
  all_goals
    conv => whnf
    refine OutA_plain rfl rfl ?_
    first
    | rfl
    | simp only [Named, inB] at *
      first | done | (simp_all [named, AV.sub, AV.sub.subL]; done) | (simp_all [named, AV.sub, AV.sub.subL] <;> omega)
theorem c_spec_l2Span (a b : Int) : PC Try.prog false 31 [.agg [.int .i64 a, .int .i64 b]] (.bool (okSpan a b)) [] := by
  refine pc_at Try.func31 rfl (by kernel_rfl) 18 [.tmp 2] rfl rfl ?_
  repeat' (conv => whnf); first
    | refine nameB_true ?_
    | refine nameB_false ?_
    | refine nameB_intro (fun x hx => ?_)
    | refine splitB_true ?_
    | refine splitB_false ?_
    | (refine splitB_intro (fun h => ?_) (fun h => ?_) <;> subst h)
    | refine side_and (side_of (by and_intros <;> first | exact Nat.le_of_ble_eq_true rfl | rfl)) ?_
    | refine side_and ?_ ?_
    | refine LoadK_of rfl rfl ?_
  all_goals
    conv => whnf
    refine OutA_plain rfl rfl ?_
    first
    | rfl
    | simp only [Named, okSpan] at *
      first | done | (simp_all [named, AV.sub, AV.sub.subL]; done) | (simp_all [named, AV.sub, AV.sub.subL] <;> omega)
theorem c_impl_GoodSpan (a b : Int) : PC Try.prog false 33 [.agg [.int .i64 a, .int .i64 b]] (.bool (okSpan a b)) [] := by
  refine pc_at Try.func33 rfl (by kernel_rfl) 18 [.tmp 2] rfl rfl ?_
  repeat' (conv => whnf); first
    | refine nameB_true ?_
    | refine nameB_false ?_
    | refine nameB_intro (fun x hx => ?_)
    | refine splitB_true ?_
    | refine splitB_false ?_
    | (refine splitB_intro (fun h => ?_) (fun h => ?_) <;> subst h)
    | refine side_and (side_of (by and_intros <;> first | exact Nat.le_of_ble_eq_true rfl | rfl)) ?_
    | refine side_and ?_ ?_
    | refine LoadK_of rfl rfl ?_
  all_goals
    conv => whnf
    refine OutA_plain rfl rfl ?_
    first
    | rfl
    | simp only [Named, okSpan] at *
      first | done | (simp_all [named, AV.sub, AV.sub.subL]; done) | (simp_all [named, AV.sub, AV.sub.subL] <;> omega)
theorem c_spec_l2Clock (a : Int) : PC Try.prog false 35 [.agg [.int .i64 a]] (.bool (inB (-5) a 5)) [] := by
  refine pc_at Try.func35 rfl (by kernel_rfl) 6 [.tmp 2] rfl rfl ?_
  repeat' (conv => whnf); first
    | refine nameB_true ?_
    | refine nameB_false ?_
    | refine nameB_intro (fun x hx => ?_)
    | refine splitB_true ?_
    | refine splitB_false ?_
    | (refine splitB_intro (fun h => ?_) (fun h => ?_) <;> subst h)
    | refine side_and (side_of (by and_intros <;> first | exact Nat.le_of_ble_eq_true rfl | rfl)) ?_
    | refine side_and ?_ ?_
    | refine LoadK_of rfl rfl ?_
    | refine Call0 (c_spec_l1In ..) rfl rfl ?_
  all_goals
    conv => whnf
    refine OutA_plain rfl rfl ?_
    first
    | rfl
    | simp only [Named, inB] at *
      first | done | (simp_all [named, AV.sub, AV.sub.subL]; done) | (simp_all [named, AV.sub, AV.sub.subL] <;> omega)
theorem c_impl_GoodClock (a : Int) : PC Try.prog false 37 [.agg [.int .i64 a]] (.bool (inB (-5) a 5)) [] := by
  refine pc_at Try.func37 rfl (by kernel_rfl) 6 [.tmp 2] rfl rfl ?_
  repeat' (conv => whnf); first
    | refine nameB_true ?_
    | refine nameB_false ?_
    | refine nameB_intro (fun x hx => ?_)
    | refine splitB_true ?_
    | refine splitB_false ?_
    | (refine splitB_intro (fun h => ?_) (fun h => ?_) <;> subst h)
    | refine side_and (side_of (by and_intros <;> first | exact Nat.le_of_ble_eq_true rfl | rfl)) ?_
    | refine side_and ?_ ?_
    | refine LoadK_of rfl rfl ?_
    | refine Call0 (c_impl_within ..) rfl rfl ?_
  all_goals
    conv => whnf
    refine OutA_plain rfl rfl ?_
    first
    | rfl
    | simp only [Named, inB] at *
      first | done | (simp_all [named, AV.sub, AV.sub.subL]; done) | (simp_all [named, AV.sub, AV.sub.subL] <;> omega)
theorem c_laws_toSpan (a b : Int) : PC Try.prog false 13 [.agg [.int .i64 a, .int .i64 b]] (.agg [.int .i64 a, .int .i64 b]) [] := by
  refine pc_at Try.func13 rfl (by kernel_rfl) 11 [.cell 2 28] rfl rfl ?_
  repeat' (conv => whnf); first
    | refine nameB_true ?_
    | refine nameB_false ?_
    | refine nameB_intro (fun x hx => ?_)
    | refine splitB_true ?_
    | refine splitB_false ?_
    | (refine splitB_intro (fun h => ?_) (fun h => ?_) <;> subst h)
    | refine side_and (side_of (by and_intros <;> first | exact Nat.le_of_ble_eq_true rfl | rfl)) ?_
    | refine side_and ?_ ?_
    | refine LoadK_of rfl rfl ?_
  all_goals
    conv => whnf
    refine OutA_plain rfl rfl ?_
    first
    | rfl
    | simp only [Named, inB] at *
      first | done | (simp_all [named, AV.sub, AV.sub.subL]; done) | (simp_all [named, AV.sub, AV.sub.subL] <;> omega)
theorem c_laws_toClock (a : Int) : PC Try.prog false 16 [.agg [.int .i64 a]] (.agg [.int .i64 a]) [] := by
  refine pc_at Try.func16 rfl (by kernel_rfl) 8 [.cell 2 35] rfl rfl ?_
  repeat' (conv => whnf); first
    | refine nameB_true ?_
    | refine nameB_false ?_
    | refine nameB_intro (fun x hx => ?_)
    | refine splitB_true ?_
    | refine splitB_false ?_
    | (refine splitB_intro (fun h => ?_) (fun h => ?_) <;> subst h)
    | refine side_and (side_of (by and_intros <;> first | exact Nat.le_of_ble_eq_true rfl | rfl)) ?_
    | refine side_and ?_ ?_
    | refine LoadK_of rfl rfl ?_
  all_goals
    conv => whnf
    refine OutA_plain rfl rfl ?_
    first
    | rfl
    | simp only [Named, inB] at *
      first | done | (simp_all [named, AV.sub, AV.sub.subL]; done) | (simp_all [named, AV.sub, AV.sub.subL] <;> omega)
theorem c_laws_eqSpan (a b c d : Int) : PC Try.prog false 18 [.agg [.int .i64 a, .int .i64 b], .agg [.int .i64 c, .int .i64 d]] (.bool (a == c && b == d)) [] := by
  refine pc_at Try.func18 rfl (by kernel_rfl) 15 [.tmp 4] rfl rfl ?_
  repeat' (conv => whnf); first
    | refine nameB_true ?_
    | refine nameB_false ?_
    | refine nameB_intro (fun x hx => ?_)
    | refine splitB_true ?_
    | refine splitB_false ?_
    | (refine splitB_intro (fun h => ?_) (fun h => ?_) <;> subst h)
    | refine side_and (side_of (by and_intros <;> first | exact Nat.le_of_ble_eq_true rfl | rfl)) ?_
    | refine side_and ?_ ?_
    | refine LoadK_of rfl rfl ?_
  all_goals
    conv => whnf
    refine OutA_plain rfl rfl ?_
    first
    | rfl
    | simp only [Named, inB] at *
      first | done | (simp_all [named, AV.sub, AV.sub.subL]; done) | (simp_all [named, AV.sub, AV.sub.subL] <;> omega)
theorem c_spec_MayTell (a b t : Int) : PC Try.prog false 12 [.agg [.int .i64 a, .int .i64 b], .int .i64 t] (.tup [.bool (okSpan a b && inB 1 t 100000 && decide (t < a)), .bool (okSpan a b && inB 1 t 100000)]) [] := by
  refine pc_at Try.func12 rfl (by kernel_rfl) 18 [.tmp 4, .tmp 5] rfl rfl ?_
  repeat' (conv => whnf); first
    | refine nameB_true ?_
    | refine nameB_false ?_
    | refine nameB_intro (fun x hx => ?_)
    | refine splitB_true ?_
    | refine splitB_false ?_
    | (refine splitB_intro (fun h => ?_) (fun h => ?_) <;> subst h)
    | refine side_and (side_of (by and_intros <;> first | exact Nat.le_of_ble_eq_true rfl | rfl)) ?_
    | refine side_and ?_ ?_
    | refine LoadK_of rfl rfl ?_
    | refine Call0 (c_spec_l2Span ..) rfl rfl ?_
    | refine Call0 (c_spec_l3Time ..) rfl rfl ?_
  all_goals
    conv => whnf
    refine OutA_plain rfl rfl ?_
    first
    | rfl
    | simp only [Named] at *
      first | done | (simp_all [named, AV.sub, AV.sub.subL]; done) | (simp_all [named, AV.sub, AV.sub.subL] <;> omega)
theorem c_impl_MayTell (a b t : Int) : PC Try.prog false 14 [.agg [.int .i64 a, .int .i64 b], .int .i64 t] (.tup [.bool (okSpan a b && inB 1 t 100000 && decide (t < a)), .bool (okSpan a b && inB 1 t 100000)]) [] := by
  refine pc_at Try.func14 rfl (by kernel_rfl) 18 [.tmp 4, .tmp 5] rfl rfl ?_
  repeat' (conv => whnf); first
    | refine nameB_true ?_
    | refine nameB_false ?_
    | refine nameB_intro (fun x hx => ?_)
    | refine splitB_true ?_
    | refine splitB_false ?_
    | (refine splitB_intro (fun h => ?_) (fun h => ?_) <;> subst h)
    | refine side_and (side_of (by and_intros <;> first | exact Nat.le_of_ble_eq_true rfl | rfl)) ?_
    | refine side_and ?_ ?_
    | refine LoadK_of rfl rfl ?_
    | refine Call0 (c_impl_GoodSpan ..) rfl rfl ?_
    | refine Call0 (c_impl_isTime ..) rfl rfl ?_
  all_goals
    conv => whnf
    refine OutA_plain rfl rfl ?_
    first
    | rfl
    | simp only [Named] at *
      first | done | (simp_all [named, AV.sub, AV.sub.subL]; done) | (simp_all [named, AV.sub, AV.sub.subL] <;> omega)
theorem c_laws_FnExactMayTell (a b t : Int) : PC Try.prog false 4 [.agg [.int .i64 a, .int .i64 b], .int .i64 t] (.bool true) [] := by
  refine pc_at Try.func4 rfl (by kernel_rfl) 31 [.tmp 4] rfl rfl ?_
  repeat' (conv => whnf); first
    | refine nameB_true ?_
    | refine nameB_false ?_
    | refine nameB_intro (fun x hx => ?_)
    | refine splitB_true ?_
    | refine splitB_false ?_
    | (refine splitB_intro (fun h => ?_) (fun h => ?_) <;> subst h)
    | refine side_and (side_of (by and_intros <;> first | exact Nat.le_of_ble_eq_true rfl | rfl)) ?_
    | refine side_and ?_ ?_
    | refine LoadK_of rfl rfl ?_
    | refine Call0 (c_laws_toSpan ..) rfl rfl ?_
    | refine Call0 (c_spec_MayTell ..) rfl rfl ?_
    | refine Call0 (c_impl_MayTell ..) rfl rfl ?_
  all_goals
    conv => whnf
    refine OutA_plain rfl rfl ?_
    first
    | rfl
    | simp only [Named] at *
      first | done | (simp_all [named, AV.sub, AV.sub.subL]; done) | (simp_all [named, AV.sub, AV.sub.subL] <;> omega)
end Go.Proofs.Ytldhlkgbnkibkaa
