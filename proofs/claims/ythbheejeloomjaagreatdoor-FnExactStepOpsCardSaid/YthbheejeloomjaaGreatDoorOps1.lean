/-
  Programs and values that were read: whether they are valid.
  No condition.
-/
import Derived.Test.YthbheejeloomjaaGreatDoorNum3
namespace Go.Proofs.YthbheejeloomjaaGreatDoor
open Go.Ab
set_option linter.unusedSimpArgs false
set_option maxRecDepth 20000
set_option maxHeartbeats 4000000
set_option linter.unusedVariables false

theorem c_IndexFunc_Op (xs : List OpT) (f : Nat) (caps : List AV) (q : OpT → Bool) (hl : xs.length ≤ 9223372036854775807) (hcap : Caps caps) (hq : ∀ x ∈ xs, PC Tryz.prog false f (.agg x.cells :: caps) (.bool (q x)) []) : PC Tryz.prog false 91 [.sl (xs.map OpT.cells), .fn f caps] (.int .i64 (idxF q 0 xs)) [] := by
  refine pc_at Tryz.func91 rfl (by kernel_rfl) 19 [.tmp 4] rfl rfl ?_
  repeat' (conv => whnf); first
 | (refine nameB_dec (fun h => ?_) (fun h => ?_) <;> try simp only [lensB] at h)
 | (refine nameB_cases (fun h => ?_) (fun h => ?_) <;> try simp only [nmL, lensB] at h)
 | refine splitB_true ?_
 | refine splitB_false ?_
 | ((refine Loop_at [0, 1, 7] [] (Nat) (fun k => idxF q k (xs.drop k) = idxF q 0 xs ∧ k ≤ xs.length) (fun k => [(8, .int .i64 (k : Nat))]) (fun k => []) (fun k => xs.length - k) 0 ⟨by first | (simp_all <;> fail) | rfl | fail, trivial⟩ trivial (by (try dsimp only); first | trivial | (refine ⟨?_, by omega⟩; simp <;> fail) | (simp <;> fail) | fail) ?_; (conv => whnf); refine side_and (side_of (by first | exact fun k => rfl | exact fun k => by simp [headOk, closedE, closedO, closedL, AV.closed, hcap.closed, hasId, AObj.box, BK.ofB])) ?_; rintro k hT; try dsimp only at hT))
 | (refine Again_of (k + 1) ⟨by first | rfl | exact i64_next (by omega) | (simp_all <;> fail) | fail, trivial⟩ trivial (by first | (and_intros <;> first | rfl | trivial) | fail) (by first | (and_intros <;> first | rfl | trivial) | fail) rfl rfl rfl (by (try dsimp only); (refine ⟨?_, by omega⟩; first | (rw [← hT.1, drop_get hx]; simp_all [idxF, List.all_cons, List.any_cons] <;> fail) | (have hg := drop_get hx; simp_all [idxF, List.all_cons, List.any_cons] <;> fail) | fail)) (show _ < _ by (try dsimp only); omega))
 | refine Call0 (hq x (List.mem_of_getElem? hx)) (congrArg (List.cons _) (hcap.same _)) (hcap.known _) ?_
 | (refine ix_map (by omega) (by (try simp only [List.length_take]); omega) (fun x hx => ?_); try simp only [Int.toNat_natCast] at hx)
 | refine side_and (side_of (by first | (and_intros <;> first | exact Nat.le_of_ble_eq_true rfl | rfl | omega | (simp only [lensB, lensC]; omega) | exact bytes_ok (Nat.le_of_ble_eq_true rfl) (by omega) (by simp only [lensB, lensC]; omega) | exact bytes_okN (Nat.le_of_ble_eq_true rfl) (by simp only [lensB, lensC]; omega)) | fail)) ?_
 | fail
  all_goals
    conv => whnf
    refine OutA_plain rfl rfl ?_
    first
    | (simp_all [idxF, named, AV.sub, AV.sub.subL]; done)
    | (rw [← hT.1, drop_get hx]; simp_all [idxF, List.all_cons, List.any_cons, named, AV.sub, AV.sub.subL]; done)
    | (have hg := drop_get hx; simp_all [idxF, List.all_cons, List.any_cons, named, AV.sub, AV.sub.subL]; done)
    | (rw [List.drop_eq_nil_of_le (by omega)] at hT; simp_all [idxF, named, AV.sub, AV.sub.subL]; done)
theorem c_ContainsFunc_Op (xs : List OpT) (f : Nat) (caps : List AV) (q : OpT → Bool) (hl : xs.length ≤ 9223372036854775807) (hcap : Caps caps) (hq : ∀ x ∈ xs, PC Tryz.prog false f (.agg x.cells :: caps) (.bool (q x)) []) : PC Tryz.prog false 66 [.sl (xs.map OpT.cells), .fn f caps] (.bool (xs.any q)) [] := by
  refine pc_at Tryz.func66 rfl (by kernel_rfl) 9 [.tmp 4] rfl rfl ?_
  repeat' (conv => whnf); first
 | (refine nameB_dec (fun h => ?_) (fun h => ?_) <;> try simp only [lensB] at h)
 | refine Call0 (c_IndexFunc_Op xs f caps q hl hcap hq) (congrArg (fun l => [AV.sl _, AV.fn f l]) (hcap.same1 _)) ((Bool.and_true _).trans (hcap.known1 _)) ?_
 | fail
  all_goals
    conv => whnf
    refine OutA_plain rfl rfl ?_
    first
    | (simp_all [idxF_pos, named, AV.sub, AV.sub.subL]; done)
    | (rw [← hT.1, drop_get hx]; simp_all [idxF_pos, List.all_cons, List.any_cons, named, AV.sub, AV.sub.subL]; done)
    | (have hg := drop_get hx; simp_all [idxF_pos, List.all_cons, List.any_cons, named, AV.sub, AV.sub.subL]; done)
    | (rw [List.drop_eq_nil_of_le (by omega)] at hT; simp_all [idxF_pos, named, AV.sub, AV.sub.subL]; done)
theorem c_IndexFunc_Got (xs : List GotT) (f : Nat) (caps : List AV) (q : GotT → Bool) (hl : xs.length ≤ 9223372036854775807) (hcap : Caps caps) (hq : ∀ x ∈ xs, PC Tryz.prog false f (.agg x.cells :: caps) (.bool (q x)) []) : PC Tryz.prog false 97 [.sl (xs.map GotT.cells), .fn f caps] (.int .i64 (idxF q 0 xs)) [] := by
  refine pc_at Tryz.func97 rfl (by kernel_rfl) 19 [.tmp 4] rfl rfl ?_
  repeat' (conv => whnf); first
 | (refine nameB_dec (fun h => ?_) (fun h => ?_) <;> try simp only [lensB] at h)
 | (refine nameB_cases (fun h => ?_) (fun h => ?_) <;> try simp only [nmL, lensB] at h)
 | refine splitB_true ?_
 | refine splitB_false ?_
 | ((refine Loop_at [0, 1, 7] [] (Nat) (fun k => idxF q k (xs.drop k) = idxF q 0 xs ∧ k ≤ xs.length) (fun k => [(8, .int .i64 (k : Nat))]) (fun k => []) (fun k => xs.length - k) 0 ⟨by first | (simp_all <;> fail) | rfl | fail, trivial⟩ trivial (by (try dsimp only); first | trivial | (refine ⟨?_, by omega⟩; simp <;> fail) | (simp <;> fail) | fail) ?_; (conv => whnf); refine side_and (side_of (by first | exact fun k => rfl | exact fun k => by simp [headOk, closedE, closedO, closedL, AV.closed, hcap.closed, hasId, AObj.box, BK.ofB])) ?_; rintro k hT; try dsimp only at hT))
 | (refine Again_of (k + 1) ⟨by first | rfl | exact i64_next (by omega) | (simp_all <;> fail) | fail, trivial⟩ trivial (by first | (and_intros <;> first | rfl | trivial) | fail) (by first | (and_intros <;> first | rfl | trivial) | fail) rfl rfl rfl (by (try dsimp only); (refine ⟨?_, by omega⟩; first | (rw [← hT.1, drop_get hx]; simp_all [idxF, List.all_cons, List.any_cons] <;> fail) | (have hg := drop_get hx; simp_all [idxF, List.all_cons, List.any_cons] <;> fail) | fail)) (show _ < _ by (try dsimp only); omega))
 | refine Call0 (hq x (List.mem_of_getElem? hx)) (congrArg (List.cons _) (hcap.same _)) (hcap.known _) ?_
 | (refine ix_map (by omega) (by (try simp only [List.length_take]); omega) (fun x hx => ?_); try simp only [Int.toNat_natCast] at hx)
 | refine side_and (side_of (by first | (and_intros <;> first | exact Nat.le_of_ble_eq_true rfl | rfl | omega | (simp only [lensB, lensC]; omega) | exact bytes_ok (Nat.le_of_ble_eq_true rfl) (by omega) (by simp only [lensB, lensC]; omega) | exact bytes_okN (Nat.le_of_ble_eq_true rfl) (by simp only [lensB, lensC]; omega)) | fail)) ?_
 | fail
  all_goals
    conv => whnf
    refine OutA_plain rfl rfl ?_
    first
    | (simp_all [idxF, named, AV.sub, AV.sub.subL]; done)
    | (rw [← hT.1, drop_get hx]; simp_all [idxF, List.all_cons, List.any_cons, named, AV.sub, AV.sub.subL]; done)
    | (have hg := drop_get hx; simp_all [idxF, List.all_cons, List.any_cons, named, AV.sub, AV.sub.subL]; done)
    | (rw [List.drop_eq_nil_of_le (by omega)] at hT; simp_all [idxF, named, AV.sub, AV.sub.subL]; done)
theorem c_ContainsFunc_Got (xs : List GotT) (f : Nat) (caps : List AV) (q : GotT → Bool) (hl : xs.length ≤ 9223372036854775807) (hcap : Caps caps) (hq : ∀ x ∈ xs, PC Tryz.prog false f (.agg x.cells :: caps) (.bool (q x)) []) : PC Tryz.prog false 71 [.sl (xs.map GotT.cells), .fn f caps] (.bool (xs.any q)) [] := by
  refine pc_at Tryz.func71 rfl (by kernel_rfl) 9 [.tmp 4] rfl rfl ?_
  repeat' (conv => whnf); first
 | (refine nameB_dec (fun h => ?_) (fun h => ?_) <;> try simp only [lensB] at h)
 | refine Call0 (c_IndexFunc_Got xs f caps q hl hcap hq) (congrArg (fun l => [AV.sl _, AV.fn f l]) (hcap.same1 _)) ((Bool.and_true _).trans (hcap.known1 _)) ?_
 | fail
  all_goals
    conv => whnf
    refine OutA_plain rfl rfl ?_
    first
    | (simp_all [idxF_pos, named, AV.sub, AV.sub.subL]; done)
    | (rw [← hT.1, drop_get hx]; simp_all [idxF_pos, List.all_cons, List.any_cons, named, AV.sub, AV.sub.subL]; done)
    | (have hg := drop_get hx; simp_all [idxF_pos, List.all_cons, List.any_cons, named, AV.sub, AV.sub.subL]; done)
    | (rw [List.drop_eq_nil_of_le (by omega)] at hT; simp_all [idxF_pos, named, AV.sub, AV.sub.subL]; done)
def hasV (k : Int) : Bool := decide (k = 2) || decide (k = 7)
def hasB (k : Int) : Bool := decide (k = 4) || decide (k = 5)
theorem c_impl_hasVal (k : Int) : PC Tryz.prog false 94 [.int .i64 k] (.bool (hasV k)) [] := by
  refine pc_at Tryz.func94 rfl (by kernel_rfl) 9 [.tmp 2] rfl rfl ?_
  repeat' (conv => whnf); first
 | (refine nameB_dec (fun h => ?_) (fun h => ?_) <;> try simp only [lensB] at h)
 | refine splitB_true ?_
 | refine splitB_false ?_
 | fail
  all_goals
    conv => whnf
    refine OutA_plain rfl rfl ?_
    first
    | rfl
    | (simp only [hasV, *, named, AV.sub, AV.sub.subL, Bool.and_true, Bool.and_false, Bool.true_and, Bool.false_and, Bool.or_true, Bool.or_false, Bool.true_or, Bool.false_or, Bool.not_true, Bool.not_false, if_true, if_false, decide_true, decide_false, Bool.false_eq_true, Bool.and_self]; done)
    | (simp_all [hasV, named, AV.sub, AV.sub.subL]; done)
    | (simp_all [hasV, named, AV.sub, AV.sub.subL] <;> (intros; omega))
    | (exfalso; omega)
theorem c_impl_hasBy (k : Int) : PC Tryz.prog false 95 [.int .i64 k] (.bool (hasB k)) [] := by
  refine pc_at Tryz.func95 rfl (by kernel_rfl) 9 [.tmp 2] rfl rfl ?_
  repeat' (conv => whnf); first
 | (refine nameB_dec (fun h => ?_) (fun h => ?_) <;> try simp only [lensB] at h)
 | refine splitB_true ?_
 | refine splitB_false ?_
 | fail
  all_goals
    conv => whnf
    refine OutA_plain rfl rfl ?_
    first
    | rfl
    | (simp only [hasB, *, named, AV.sub, AV.sub.subL, Bool.and_true, Bool.and_false, Bool.true_and, Bool.false_and, Bool.or_true, Bool.or_false, Bool.true_or, Bool.false_or, Bool.not_true, Bool.not_false, if_true, if_false, decide_true, decide_false, Bool.false_eq_true, Bool.and_self]; done)
    | (simp_all [hasB, named, AV.sub, AV.sub.subL]; done)
    | (simp_all [hasB, named, AV.sub, AV.sub.subL] <;> (intros; omega))
    | (exfalso; omega)
def okOpI (o : OpT) : Bool := inB 1 o.Kind 7 && (okKey o.Key && (okVal o.Val && ((hasV o.Kind || decide (o.Val = [])) && (inB (-9999) o.By 9999 && (hasB o.Kind || decide (o.By = 0))))))
def okOp (o : OpT) : Bool := okKey o.Key && (if o.Kind = 2 ∨ o.Kind = 7 then okVal o.Val && decide (o.By = 0) else if o.Kind = 4 ∨ o.Kind = 5 then decide (o.Val = []) && inB (-9999) o.By 9999 else (decide (o.Kind = 1 ∨ o.Kind = 3 ∨ o.Kind = 6) && (decide (o.Val = []) && decide (o.By = 0))))
theorem okOpI_eq (o : OpT) : okOpI o = okOp o := by
  have e0 : okVal [] = true := by rfl
  have e1 : inB (-9999) 0 9999 = true := by decide
  unfold okOpI okOp hasV hasB
  by_cases hr : inB 1 o.Kind 7 = true
  · have hk := inB_le' hr
    rw [hr]
    have : o.Kind = 1 ∨ o.Kind = 2 ∨ o.Kind = 3 ∨ o.Kind = 4 ∨ o.Kind = 5 ∨ o.Kind = 6 ∨ o.Kind = 7 := by omega
    rcases this with h | h | h | h | h | h | h <;> rw [h] <;> by_cases hb : o.By = 0 <;> by_cases hv : o.Val = [] <;> simp [hb, hv, e0, e1]
  · have hk : ¬ (1 ≤ o.Kind ∧ o.Kind ≤ 7) := fun q => hr (by unfold inB; simp [q.1, q.2])
    rw [Bool.eq_false_iff.2 hr, if_neg (by omega), if_neg (by omega), decide_eq_false (show ¬ (o.Kind = 1 ∨ o.Kind = 3 ∨ o.Kind = 6) by omega)]
    simp
theorem c_impl_isOp (o : OpT) (hok : o.ok) : PC Tryz.prog false 68 [.agg o.cells] (.bool (okOpI o)) [] := by
  refine pc_at Tryz.func68 rfl (by kernel_rfl) 41 [.tmp 2] rfl rfl ?_
  repeat' (conv => whnf); first
 | (refine nameB_dec (fun h => ?_) (fun h => ?_) <;> try simp only [lensB] at h)
 | (refine nameB_cases (fun h => ?_) (fun h => ?_) <;> try simp only [nmL, lensB] at h)
 | refine splitB_true ?_
 | refine splitB_false ?_
 | refine Call0 (c_impl_within ..) rfl rfl ?_
 | refine Call0 (c_impl_GoodKey o.Key hok.2.1) rfl rfl ?_
 | refine Call0 (c_impl_GoodVal o.Val hok.2.2.1) rfl rfl ?_
 | refine Call0 (c_impl_hasVal ..) rfl rfl ?_
 | refine Call0 (c_impl_hasBy ..) rfl rfl ?_
 | refine side_and (side_of (by first | (and_intros <;> first | exact Nat.le_of_ble_eq_true rfl | rfl | omega | (simp only [lensB, lensC]; omega) | exact bytes_ok (Nat.le_of_ble_eq_true rfl) (by omega) (by simp only [lensB, lensC]; omega) | exact bytes_okN (Nat.le_of_ble_eq_true rfl) (by simp only [lensB, lensC]; omega)) | fail)) ?_
 | fail
  all_goals
    conv => whnf
    refine OutA_plain rfl rfl ?_
    first
    | rfl
    | (simp only [okOpI, *, named, AV.sub, AV.sub.subL, Bool.and_true, Bool.and_false, Bool.true_and, Bool.false_and, Bool.or_true, Bool.or_false, Bool.true_or, Bool.false_or, Bool.not_true, Bool.not_false, if_true, if_false, decide_true, decide_false, Bool.false_eq_true, Bool.and_self]; done)
    | (simp_all [okOpI, named, AV.sub, AV.sub.subL]; done)
    | (simp_all [okOpI, named, AV.sub, AV.sub.subL] <;> (intros; omega))
    | (exfalso; omega)
theorem c_spec_l5Op (o : OpT) (hok : o.ok) : PC Tryz.prog false 58 [.agg o.cells] (.bool (okOp o)) [] := by
  refine pc_at Tryz.func58 rfl (by kernel_rfl) 54 [.tmp 2] rfl rfl ?_
  repeat' (conv => whnf); first
 | refine nameB_true ?_
 | refine nameB_false ?_
 | (refine nameB_dec (fun h => ?_) (fun h => ?_) <;> try simp only [lensB] at h)
 | (refine nameB_cases (fun h => ?_) (fun h => ?_) <;> try simp only [nmL, lensB] at h)
 | refine splitB_true ?_
 | refine splitB_false ?_
 | refine Call0 (c_spec_l1In ..) rfl rfl ?_
 | refine Call0 (c_spec_l3Key o.Key hok.2.1) rfl rfl ?_
 | refine Call0 (c_spec_l3Val o.Val hok.2.2.1) rfl rfl ?_
 | refine side_and (side_of (by first | (and_intros <;> first | exact Nat.le_of_ble_eq_true rfl | rfl | omega | (simp only [lensB, lensC]; omega) | exact bytes_ok (Nat.le_of_ble_eq_true rfl) (by omega) (by simp only [lensB, lensC]; omega) | exact bytes_okN (Nat.le_of_ble_eq_true rfl) (by simp only [lensB, lensC]; omega)) | fail)) ?_
 | fail
  all_goals
    conv => whnf
    refine OutA_plain rfl rfl ?_
    first
    | (simp_all [okOp, named, AV.sub, AV.sub.subL]; done)
    | trace_state
def okOps (l : List OpT) : Bool := l.all okOp && decide ((l.length : Int) ≤ 8)
theorem c_impl_GoodOps_1 (o : OpT) (hok : o.ok) : PC Tryz.prog false 67 [.agg o.cells] (.bool (!okOp o)) [] := by
  rw [← okOpI_eq]
  refine pc_at Tryz.func67 rfl (by kernel_rfl) 6 [.tmp 2] rfl rfl ?_
  repeat' (conv => whnf); first
 | refine nameB_true ?_
 | refine nameB_false ?_
 | (refine nameB_cases (fun h => ?_) (fun h => ?_) <;> try simp only [nmL, lensB] at h)
 | refine Call0 (c_impl_isOp o hok) rfl rfl ?_
 | refine side_and (side_of (by first | (and_intros <;> first | exact Nat.le_of_ble_eq_true rfl | rfl | omega | (simp only [lensB, lensC]; omega) | exact bytes_ok (Nat.le_of_ble_eq_true rfl) (by omega) (by simp only [lensB, lensC]; omega) | exact bytes_okN (Nat.le_of_ble_eq_true rfl) (by simp only [lensB, lensC]; omega)) | fail)) ?_
 | fail
  all_goals
    conv => whnf
    refine OutA_plain rfl rfl ?_
    first
    | rfl
    | (simp only [*, named, AV.sub, AV.sub.subL, Bool.and_true, Bool.and_false, Bool.true_and, Bool.false_and, Bool.or_true, Bool.or_false, Bool.true_or, Bool.false_or, Bool.not_true, Bool.not_false, if_true, if_false, decide_true, decide_false, Bool.false_eq_true, Bool.and_self]; done)
    | (simp_all [named, AV.sub, AV.sub.subL]; done)
    | (simp_all [named, AV.sub, AV.sub.subL] <;> (intros; omega))
    | (exfalso; omega)
theorem c_impl_GoodOps (l : List OpT) (hok : okL OpT.ok l) : PC Tryz.prog false 40 [.sl (l.map OpT.cells)] (.bool (okOps l)) [] := by
  have hl := hok.1
  refine pc_at Tryz.func40 rfl (by kernel_rfl) 11 [.tmp 2] rfl rfl ?_
  repeat' (conv => whnf); first
 | (refine nameB_cases (b := l.any _) (fun h => ?_) (fun h => ?_))
 | refine nameB_true ?_
 | refine nameB_false ?_
 | (refine nameB_dec (fun h => ?_) (fun h => ?_) <;> try simp only [lensB] at h)
 | refine splitB_true ?_
 | refine splitB_false ?_
 | refine Call0 (c_ContainsFunc_Op l 67 [] (fun o => !okOp o) hl ⟨fun _ => rfl, fun _ => rfl, fun _ => rfl, fun _ => rfl, fun _ => rfl⟩ (fun x hx => c_impl_GoodOps_1 x (hok.2 x hx))) rfl rfl ?_
 | fail
  all_goals
    conv => whnf
    refine OutA_plain rfl rfl ?_
    first
    | (rw [any_notN] at h; simp_all [okOps, named, AV.sub, AV.sub.subL]; done)
    | (simp_all [okOps, named, AV.sub, AV.sub.subL]; done)
    | (simp_all [okOps, named, AV.sub, AV.sub.subL] <;> (intros; omega))
    | trace_state
theorem c_spec_l5Good (l : List OpT) (hok : okL OpT.ok l) : PC Tryz.prog false 35 [.sl (l.map OpT.cells)] (.bool (okOps l)) [] := by
  have hl := hok.1
  refine pc_at Tryz.func35 rfl (by kernel_rfl) 18 [.tmp 2] rfl rfl ?_
  repeat' (conv => whnf); first
 | (refine nameB_cases (b := okOp x) (fun h => ?_) (fun h => ?_))
 | refine nameB_true ?_
 | refine nameB_false ?_
 | (refine nameB_dec (fun h => ?_) (fun h => ?_) <;> try simp only [lensB] at h)
 | refine splitB_true ?_
 | refine splitB_false ?_
 | ((refine Loop_at [0, 5, 6] [] (Nat) (fun k => (l.drop k).all okOp = l.all okOp ∧ k ≤ l.length) (fun k => [(7, .int .i64 (k : Nat))]) (fun k => []) (fun k => l.length - k) 0 ⟨by first | (simp_all <;> fail) | rfl | fail, trivial⟩ trivial (by (try dsimp only); first | (exact ⟨rfl, Nat.zero_le _⟩) | fail) ?_; (conv => whnf); refine side_and (side_of (by first | exact fun k => rfl | exact fun k => by simp [headOk, closedE, closedO, closedL, AV.closed, hcap.closed, hasId, AObj.box, BK.ofB])) ?_; rintro k hT; try dsimp only at hT))
 | (refine Again_of (k + 1) ⟨by first | rfl | exact i64_next (by omega) | (simp_all <;> fail) | fail, trivial⟩ trivial (by first | (and_intros <;> first | rfl | trivial) | fail) (by first | (and_intros <;> first | rfl | trivial) | fail) rfl rfl rfl (by (try dsimp only); first | (exact ⟨all_go hT.1 hx (by assumption), by omega⟩) | fail) (show _ < _ by (try dsimp only); omega))
 | refine Call0 (c_spec_l5Op x (hok.2 x (List.mem_of_getElem? hx))) rfl rfl ?_
 | (refine ix_map (by omega) (by (try simp only [List.length_take]); omega) (fun x hx => ?_); try simp only [Int.toNat_natCast] at hx)
 | refine side_and (side_of (by first | (and_intros <;> first | exact Nat.le_of_ble_eq_true rfl | rfl | omega | (simp only [lensB, lensC]; omega) | exact bytes_ok (Nat.le_of_ble_eq_true rfl) (by omega) (by simp only [lensB, lensC]; omega) | exact bytes_okN (Nat.le_of_ble_eq_true rfl) (by simp only [lensB, lensC]; omega)) | fail)) ?_
 | fail
  all_goals
    conv => whnf
    refine OutA_plain rfl rfl ?_
    first
    | (have hb := all_bad hT.1 hx (by assumption); simp only [okOps, hb, Bool.false_and]; rfl)
    | (have hb := all_end hT.1 (by assumption); simp_all [okOps, named, AV.sub, AV.sub.subL]; done)
    | trace_state
def gotAt (pre : List GotT) (g : GotT) : Bool := (okKey g.Key && okStored g.Val (!g.There)) && !pre.any fun p => p.Key == g.Key
def okGots (gs : List GotT) : Bool := allPre gotAt [] gs && decide ((gs.length : Int) ≤ 8)
theorem gotAt_no {pre : List GotT} {g : GotT} (h : okKey g.Key = false ∨ okStored g.Val (!g.There) = false ∨ (pre.any fun p => p.Key == g.Key) = true) : gotAt pre g = false := by
  rcases h with h | h | h <;> simp only [gotAt, h, Bool.not_true, Bool.and_false, Bool.false_and]
theorem gotAt_yes {pre : List GotT} {g : GotT} (h1 : okKey g.Key = true) (h2 : okStored g.Val (!g.There) = true) (h3 : (pre.any fun p => p.Key == g.Key) = false) : gotAt pre g = true := by simp only [gotAt, h1, h2, h3, Bool.not_false, Bool.and_self]
theorem c_impl_areGot_1 (g p : GotT) : PC Tryz.prog false 72 [.agg p.cells, .rp g.cells] (.bool (p.Key == g.Key)) [] := by
  refine pc_at Tryz.func72 rfl (by kernel_rfl) 9 [.tmp 3] rfl rfl ?_
  repeat' (conv => whnf); first
 | (refine nameB_cases (fun h => ?_) (fun h => ?_) <;> try simp only [nmL, lensB] at h)
 | refine side_and (side_of (by first | (and_intros <;> first | exact Nat.le_of_ble_eq_true rfl | rfl | omega | (simp only [lensB, lensC]; omega) | exact bytes_ok (Nat.le_of_ble_eq_true rfl) (by omega) (by simp only [lensB, lensC]; omega) | exact bytes_okN (Nat.le_of_ble_eq_true rfl) (by simp only [lensB, lensC]; omega)) | fail)) ?_
 | fail
  all_goals
    conv => whnf
    refine OutA_plain rfl rfl ?_
    first
    | rfl
    | (simp only [*, named, AV.sub, AV.sub.subL, Bool.and_true, Bool.and_false, Bool.true_and, Bool.false_and, Bool.or_true, Bool.or_false, Bool.true_or, Bool.false_or, Bool.not_true, Bool.not_false, if_true, if_false, decide_true, decide_false, Bool.false_eq_true, Bool.and_self]; done)
    | (simp_all [named, AV.sub, AV.sub.subL]; done)
    | (simp_all [named, AV.sub, AV.sub.subL] <;> (intros; omega))
    | (exfalso; omega)
theorem c_impl_areGot (gs : List GotT) (hok : okL GotT.ok gs) : PC Tryz.prog false 41 [.sl (gs.map GotT.cells)] (.bool (okGots gs)) [] := by
  have hl := hok.1
  refine pc_at Tryz.func41 rfl (by kernel_rfl) 36 [.tmp 2] rfl rfl ?_
  repeat' (conv => whnf); first
 | (refine nameB_self (b := x.There) ?_)
 | (refine nameB_self (b := !x.There) ?_)
 | (refine nameB_cases (b := okKey x.Key) (fun h => ?_) (fun h => ?_))
 | (refine nameB_cases (b := okStored x.Val (!x.There)) (fun h => ?_) (fun h => ?_))
 | (refine nameB_cases (b := (gs.take k).any _) (fun h => ?_) (fun h => ?_))
 | refine nameB_true ?_
 | refine nameB_false ?_
 | (refine nameB_dec (fun h => ?_) (fun h => ?_) <;> try simp only [lensB] at h)
 | refine splitB_true ?_
 | refine splitB_false ?_
 | ((refine Loop_at [0, 5, 6] [] (Nat) (fun k => allPre gotAt (gs.take k) (gs.drop k) = allPre gotAt [] gs ∧ k ≤ gs.length) (fun k => [(7, .int .i64 (k : Nat))]) (fun k => []) (fun k => gs.length - k) 0 ⟨by first | (simp_all <;> fail) | rfl | fail, trivial⟩ trivial (by (try dsimp only); first | (exact ⟨rfl, by omega⟩) | fail) ?_; (conv => whnf); refine side_and (side_of (by first | exact fun k => rfl | exact fun k => by simp [headOk, closedE, closedO, closedL, AV.closed, hcap.closed, hasId, AObj.box, BK.ofB])) ?_; rintro k hT; try dsimp only at hT))
 | (refine Again_of (k + 1) ⟨by first | rfl | exact i64_next (by omega) | (simp_all <;> fail) | fail, trivial⟩ trivial (by first | (and_intros <;> first | rfl | trivial) | fail) (by first | (and_intros <;> first | rfl | trivial) | fail) rfl rfl rfl (by (try dsimp only); first | (exact ⟨allPre_go hT.1 hx (gotAt_yes (by assumption) (by assumption) (by assumption)), by omega⟩) | fail) (show _ < _ by (try dsimp only); omega))
 | refine Call0 (c_impl_GoodKey x.Key (hok.2 x (List.mem_of_getElem? hx)).1) rfl rfl ?_
 | refine Call0 (c_impl_isStored x.Val (!x.There) (hok.2 x (List.mem_of_getElem? hx)).2.1) rfl rfl ?_
 | refine Call0 (c_ContainsFunc_Got (gs.take k) 72 [.rp x.cells] (fun p => p.Key == x.Key) (by rw [List.length_take]; omega) ⟨fun _ => rfl, fun _ => rfl, fun _ => rfl, fun _ => rfl, fun _ => rfl⟩ (fun p _ => c_impl_areGot_1 x p)) rfl rfl ?_
 | refine sl_pre (by omega) (fun _ => rfl) ?_
 | (refine ix_map (by omega) (by (try simp only [List.length_take]); omega) (fun x hx => ?_); try simp only [Int.toNat_natCast] at hx)
 | refine side_and (side_of (by first | (and_intros <;> first | exact Nat.le_of_ble_eq_true rfl | rfl | omega | (simp only [lensB, lensC]; omega) | exact bytes_ok (Nat.le_of_ble_eq_true rfl) (by omega) (by simp only [lensB, lensC]; omega) | exact bytes_okN (Nat.le_of_ble_eq_true rfl) (by simp only [lensB, lensC]; omega)) | fail)) ?_
 | fail
  all_goals
    conv => whnf
    refine OutA_plain rfl rfl ?_
    first
    | (have hb := allPre_bad hT.1 hx (gotAt_no (.inl (by assumption))); simp only [okGots, hb, Bool.false_and]; rfl)
    | (have hb := allPre_bad hT.1 hx (gotAt_no (.inr (.inl (by assumption)))); simp only [okGots, hb, Bool.false_and]; rfl)
    | (have hb := allPre_bad hT.1 hx (gotAt_no (.inr (.inr (by assumption)))); simp only [okGots, hb, Bool.false_and]; rfl)
    | (have hb := allPre_end hT.1 (by assumption); simp_all [okGots, named, AV.sub, AV.sub.subL]; done)
    | trace_state
theorem okStored_of {v : List UInt8} {t : Bool} (h1 : okVal v = true) (h2 : t = true ∨ v = []) : okStored v (!t) = true := by
  unfold okStored
  rw [h1]
  rcases h2 with h2 | h2 <;> simp [h2]
theorem okStored_not {v : List UInt8} {t : Bool} (h : okVal v = false ∨ t = false ∧ ¬ v = []) : okStored v (!t) = false := by
  unfold okStored
  rcases h with h | ⟨h, h2⟩
  · rw [h]; rfl
  · rw [h]; simp [h2]
theorem c_spec_l5Gots (gs : List GotT) (hok : okL GotT.ok gs) : PC Tryz.prog false 36 [.sl (gs.map GotT.cells)] (.bool (okGots gs)) [] := by
  have hl := hok.1
  refine pc_at Tryz.func36 rfl (by kernel_rfl) 52 [.tmp 2] rfl rfl ?_
  repeat' (conv => whnf); first
 | (refine nameB_cases (b := okKey x.Key) (fun h => ?_) (fun h => ?_))
 | (refine nameB_cases (b := okVal x.Val) (fun h => ?_) (fun h => ?_))
 | (refine nameB_cases (b := x.There) (fun h => ?_) (fun h => ?_))
 | refine nameB_true ?_
 | refine nameB_false ?_
 | (refine nameB_dec (fun h => ?_) (fun h => ?_) <;> try simp only [lensB] at h)
 | (refine nameB_cases (fun h => ?_) (fun h => ?_) <;> try simp only [nmL, lensB] at h)
 | refine splitB_true ?_
 | refine splitB_false ?_
 | (refine Loop_at [0, 7, 8] [] (Nat) (fun k => allPre gotAt (gs.take k) (gs.drop k) = allPre gotAt [] gs ∧ k ≤ gs.length) (fun k => [(9, .int .i64 (k : Nat))]) (fun k => []) (fun k => gs.length - k) 0 ⟨by first | (simp_all <;> fail) | rfl | fail, trivial⟩ trivial (by (try dsimp only); first | (exact ⟨rfl, by omega⟩) | fail) ?_; (conv => whnf); refine side_and (side_of (by first | exact fun k => rfl | exact fun k => by simp [headOk, closedE, closedO, closedL, AV.closed, hcap.closed, hasId, AObj.box, BK.ofB])) ?_; rintro k hT; try dsimp only at hT)
 | (refine Loop_at [0, 4, 7, 8, 9, 36, 37] [12336] (Nat) (fun i => ((gs.take k).drop i).any (fun p => p.Key == x.Key) = (gs.take k).any (fun p => p.Key == x.Key) ∧ i ≤ k) (fun i => [(38, .int .i64 (i : Nat))]) (fun i => []) (fun i => k - i) 0 ⟨by first | (simp_all <;> fail) | rfl | fail, trivial⟩ trivial (by (try dsimp only); first | (exact ⟨rfl, by omega⟩) | fail) ?_; (conv => whnf); refine side_and (side_of (by first | exact fun i => rfl | exact fun i => by simp [headOk, closedE, closedO, closedL, AV.closed, hcap.closed, hasId, AObj.box, BK.ofB])) ?_; rintro i hI; try dsimp only at hI)
 | refine Again_of (k + 1) ⟨by first | rfl | exact i64_next (by omega) | (simp_all <;> fail) | fail, trivial⟩ trivial (by first | (and_intros <;> first | rfl | trivial) | fail) (by first | (and_intros <;> first | rfl | trivial) | fail) rfl rfl rfl (by (try dsimp only); first | (exact ⟨allPre_go hT.1 hx (gotAt_yes (by assumption) (okStored_of (by assumption) (by first | exact .inl (by assumption) | exact .inr (by assumption))) (any_end hI.1 (by rw [List.length_take]; assumption))), by omega⟩) | fail) (show _ < _ by (try dsimp only); omega)
 | refine Again_of (i + 1) ⟨by first | rfl | exact i64_next (by omega) | (simp_all <;> fail) | fail, trivial⟩ trivial (by first | (and_intros <;> first | rfl | trivial) | fail) (by first | (and_intros <;> first | rfl | trivial) | fail) rfl rfl rfl (by (try dsimp only); first | (exact ⟨any_go hI.1 hy (by rw [beq_eq_false_iff_ne]; intro e; exact absurd e.symm (by assumption)), by omega⟩) | fail) (show _ < _ by (try dsimp only); omega)
 | refine Call0 (c_spec_l3Key x.Key (hok.2 x (List.mem_of_getElem? hx)).1) rfl rfl ?_
 | refine Call0 (c_spec_l3Val x.Val (hok.2 x (List.mem_of_getElem? hx)).2.1) rfl rfl ?_
 | refine sl_pre (by omega) (fun _ => rfl) ?_
 | (refine ix_map2 hx (by omega) (by (try simp only [List.length_take]); omega) (fun y hy => ?_); try simp only [Int.toNat_natCast] at hy)
 | (refine ix_map (by omega) (by (try simp only [List.length_take]); omega) (fun x hx => ?_); try simp only [Int.toNat_natCast] at hx)
 | refine side_and (side_of (by first | (and_intros <;> first | exact Nat.le_of_ble_eq_true rfl | rfl | omega | (simp only [lensB, lensC]; omega) | exact bytes_ok (Nat.le_of_ble_eq_true rfl) (by omega) (by simp only [lensB, lensC]; omega) | exact bytes_okN (Nat.le_of_ble_eq_true rfl) (by simp only [lensB, lensC]; omega)) | fail)) ?_
 | fail
  all_goals
    conv => whnf
    refine OutA_plain rfl rfl ?_
    first
    | (have hb := allPre_bad hT.1 hx (gotAt_no (.inl (by assumption))); simp only [okGots, hb, Bool.false_and]; rfl)
    | (have hb := allPre_bad hT.1 hx (gotAt_no (.inr (.inl (okStored_not (by first | exact .inl (by assumption) | exact .inr ⟨by assumption, by assumption⟩))))); simp only [okGots, hb, Bool.false_and]; rfl)
    | (have hb := allPre_bad hT.1 hx (gotAt_no (.inr (.inr (any_hit hI.1 hy (beq_iff_eq.2 (Eq.symm (by assumption))))))); simp only [okGots, hb, Bool.false_and]; rfl)
    | (have hb := allPre_end hT.1 (by assumption); simp_all [okGots, named, AV.sub, AV.sub.subL]; done)
    | trace_state
end Go.Proofs.YthbheejeloomjaaGreatDoor
