/-
  What the functions on commit times give.
  No condition.
-/
import Derived.Test.YtgeoghlgpnedfaaStrs
namespace Go.Proofs.Ytgeoghlgpnedfaa
open Go.Ab
set_option linter.unusedSimpArgs false
set_option maxRecDepth 20000
set_option linter.unusedVariables false

theorem c_impl_isTime (n : Int) : PC Try.prog false 172 [.int .i64 n] (.bool (inB 1 n 100000)) [] := by
  refine pc_at Try.func172 rfl (by kernel_rfl) 5 [.tmp 2] rfl rfl ?_
  repeat' (conv => whnf); first
    | refine nameB_true ?_
    | refine nameB_false ?_
    | refine nameB_yes (by assumption) ?_
    | refine nameB_no (by assumption) ?_
    | refine nameB_dyes (by assumption) ?_
    | refine nameB_dno (by assumption) ?_
    | (refine nameB_dec (fun h => ?_) (fun h => ?_) <;> try simp only [List.length_map, List.length_take, List.length_append, List.length_drop, List.length_set, markList_length, midL_len, mkL_length, Int.toNat_natCast, fact_byte] at h)
    | (refine nameB_cases (fun h => ?_) (fun h => ?_) <;> try simp only [bne_iff_ne, ne_eq, bne_eq_false_iff_eq, beq_iff_eq, beq_eq_false_iff_ne, Bool.not_eq_true', Bool.not_eq_false', Bool.or_eq_true, Bool.or_eq_false_iff, List.length_map, List.length_take, List.length_append, List.length_drop, List.length_set, markList_length, midL_len, mkL_length, Int.toNat_natCast, fact_byte] at h)
    | refine splitB_true ?_
    | refine splitB_false ?_
    | (refine splitB_intro (fun h => ?_) (fun h => ?_) <;> subst h)
    | refine ⟨⟨by kernel_rfl, by kernel_rfl, by kernel_rfl⟩, ?_⟩
    | (show Go.Ab.CallA _ _ _ _ _ _ _; refine Call0 (c_impl_within ..) rfl rfl ?_)
    | refine ix_map_at hx ?_
    | refine ix_map_at hy ?_
    | refine sl_pre (by omega) (fun _ => rfl) ?_
    | refine sl_suf (by omega) (fun _ => rfl) ?_
    | (refine ix_map2 hx (by omega) (by (try simp only [List.length_take]); omega) (fun y hy => ?_); try simp only [Int.toNat_natCast] at hy)
    | (refine ix_map (by omega) (by (try simp only [List.length_take]); omega) (fun x hx => ?_); try simp only [Int.toNat_natCast] at hx)
    | refine side_and (side_of (by first | (and_intros <;> first | exact Nat.le_of_ble_eq_true rfl | rfl | omega | (simp only [List.length_map, List.length_append, List.length_replicate, List.length_take, List.length_cons, List.length_nil, List.length_drop, List.length_set, markList_length, midL_len, mkL_length]; omega) | exact bytes_ok (Nat.le_of_ble_eq_true rfl) (by omega) (by simp only [List.length_map, List.length_append, List.length_replicate, List.length_take, List.length_cons, List.length_nil, List.length_drop, List.length_set, markList_length, midL_len, mkL_length]; omega) | exact bytes_okN (Nat.le_of_ble_eq_true rfl) (by simp only [List.length_map, List.length_append, List.length_replicate, List.length_take, List.length_cons, List.length_nil, List.length_drop, List.length_set, markList_length, midL_len, mkL_length]; omega)) | fail)) ?_
    | refine nilB_intro (fun h => ?_) ?_
    | refine side_and (side_of (show Go.Ab.structOk _ _ = true by kernel_rfl)) ?_
    | refine side_and (side_of (map_len (fun _ => rfl))) ?_
    | refine side_and (side_of (map_one (fun _ => rfl) _)) ?_
    | refine side_and ?_ ?_
    | refine LoadK_of rfl rfl ?_
    | refine LoadD_cel rfl rfl rfl rfl ?_
    | refine LoadD_of rfl ?_
    | refine StoreD_of rfl rfl rfl ?_
    | refine AppD_of rfl (by and_intros <;> first | rfl | decide) (by simp only [List.length_map, List.length_append, List.length_take, List.length_cons, List.length_nil]; first | (refine ⟨by omega, ?_⟩; refine Nat.le_trans (Nat.mul_le_mul_left _ (show _ ≤ 512 by decide)) ?_; omega) | fail) ?_
    | refine AppN_of rfl rfl (by and_intros <;> rfl) (by simp only [List.length_map, List.length_append, List.length_take, List.length_cons, List.length_nil]; first | (refine ⟨by omega, ?_⟩; refine Nat.le_trans (Nat.mul_le_mul_left _ (show _ ≤ 512 by decide)) ?_; omega) | fail) ?_
    | (show False; omega)
  all_goals
    conv => whnf
    refine OutA_plain rfl rfl ?_
    first
    | rfl
    | (simp_all [named, AV.sub, AV.sub.subL]; done)
    | (simp_all [named, AV.sub, AV.sub.subL] <;> omega)
theorem mostOf_ge : ∀ (xs : List Int) (m x : Int), m ≤ x → mostOf m xs ≤ mostOf x xs
  | [], m, x, h => h
  | y :: ys, m, x, h => mostOf_ge ys _ _ (by split <;> split <;> omega)
theorem mostOf_max : ∀ (xs : List Int) (m x : Int), mostOf (if x > m then x else m) xs = (if x > mostOf m xs then x else mostOf m xs)
  | [], m, x => rfl
  | y :: ys, m, x => by
    simp only [mostOf]
    have e : (if (if x > m then x else m) > y then (if x > m then x else m) else y) = (if x > (if m > y then m else y) then x else (if m > y then m else y)) := by
      by_cases h1 : x > m <;> by_cases h2 : m > y <;> by_cases h3 : x > y <;> simp only [h1, h2, h3, if_true, if_false] <;> first | rfl | omega
    rw [e]
    exact mostOf_max ys _ x
def timesOk (xs : List Int) : Bool := inB 1 xs.length 4 && xs.all (fun n => inB 1 n 100000)
def okDecide (xs : List Int) (s : SpanT) : Bool := timesOk xs && okSpan s.Low s.High && !decide (mostOf (IntKind.i64.wrap (s.High + 1)) xs > 100000)
theorem any_not {α : Type} (q : α → Bool) (xs : List α) : (xs.any fun n => !q n) = !xs.all q := by rw [List.not_all_eq_any_not]
theorem okSpan_high {lo hi : Int} (h : okSpan lo hi = true) : -10 ≤ hi ∧ hi ≤ 100010 := by
  simp only [okSpan, Bool.and_eq_true, decide_eq_true_eq] at h
  omega
theorem span_wrap {s : SpanT} (h : okSpan s.Low s.High = true) : IntKind.i64.wrap (s.High + 1) = s.High + 1 := by
  have := okSpan_high h
  exact i64_wrap (by omega) (by omega)
theorem max_most {xs : List Int} {x0 m : Int} (h : xs[0]? = some x0) : (if m > mostOf x0 (xs.drop 1) then m else mostOf x0 (xs.drop 1)) = mostOf m xs := by
  cases xs with
  | nil => simp at h
  | cons y ys =>
    simp at h
    subst h
    simp only [List.drop_succ_cons, List.drop_zero, mostOf]
    rw [← mostOf_max ys y m]
end Go.Proofs.Ytgeoghlgpnedfaa
