/-
  A program run against rows.
  No condition.
-/
import Derived.Test.YthbheejeloomjaaGreatDoorOps6
namespace Go.Proofs.YthbheejeloomjaaGreatDoor
open Go.Ab
set_option linter.unusedSimpArgs false
set_option maxRecDepth 20000
set_option maxHeartbeats 4000000
set_option linter.unusedVariables false

def okRw (rows : List WriteT) : Bool := okWrites rows && !rows.any WriteT.Gone
theorem c_impl_isRows_1 (w : WriteT) : PC Tryz.prog false 82 [.agg w.cells] (.bool w.Gone) [] := by
  refine pc_at Tryz.func82 rfl (by kernel_rfl) 5 [.tmp 2] rfl rfl ?_
  repeat' (conv => whnf); first
 | (refine nameB_self (b := w.Gone) ?_)
 | refine side_and (side_of (by first | (and_intros <;> first | exact Nat.le_of_ble_eq_true rfl | rfl | omega | (simp only [lensB, lensC]; omega) | exact bytes_ok (Nat.le_of_ble_eq_true rfl) (by omega) (by simp only [lensB, lensC]; omega) | exact bytes_okN (Nat.le_of_ble_eq_true rfl) (by simp only [lensB, lensC]; omega)) | fail)) ?_
 | fail
  all_goals
    conv => whnf
    refine OutA_plain rfl rfl ?_
    first
    | rfl
    | (simp only [*, named, AV.sub, AV.sub.subL, Bool.and_true, Bool.and_false, Bool.true_and, Bool.false_and, Bool.or_true, Bool.or_false, Bool.true_or, Bool.false_or, Bool.not_true, Bool.not_false, if_true, if_false, decide_true, decide_false, Bool.false_eq_true, Bool.and_self]; done)
    | (simp_all [named, AV.sub, AV.sub.subL]; done)
    | (simp_all [named, AV.sub, AV.sub.subL] <;> (intros; omega))
    | (exfalso; omega)
theorem c_impl_isRows (rows : List WriteT) (hok : okL WriteT.ok rows) (hl : rows.length ≤ 1048576) : PC Tryz.prog false 51 [.sl (rows.map WriteT.cells)] (.bool (okRw rows)) [] := by
  refine pc_at Tryz.func51 rfl (by kernel_rfl) 10 [.tmp 2] rfl rfl ?_
  repeat' (conv => whnf); first
 | (refine nameB_cases (b := rows.any _) (fun h => ?_) (fun h => ?_))
 | refine nameB_true ?_
 | refine nameB_false ?_
 | (refine nameB_cases (fun h => ?_) (fun h => ?_) <;> try simp only [nmL, lensB] at h)
 | refine splitB_true ?_
 | refine splitB_false ?_
 | refine Call0 (c_impl_GoodWrites rows hok hl) rfl rfl ?_
 | refine Call0 (c_ContainsFunc_Write rows 82 [] WriteT.Gone hok.1 ⟨fun _ => rfl, fun _ => rfl, fun _ => rfl, fun _ => rfl, fun _ => rfl⟩ (fun x _ => c_impl_isRows_1 x)) rfl rfl ?_
 | fail
  all_goals
    conv => whnf
    refine OutA_plain rfl rfl ?_
    first
    | rfl
    | (simp only [okRw, *, named, AV.sub, AV.sub.subL, Bool.and_true, Bool.and_false, Bool.true_and, Bool.false_and, Bool.or_true, Bool.or_false, Bool.true_or, Bool.false_or, Bool.not_true, Bool.not_false, if_true, if_false, decide_true, decide_false, Bool.false_eq_true, Bool.and_self]; done)
    | (simp_all [okRw, named, AV.sub, AV.sub.subL]; done)
    | (simp_all [okRw, named, AV.sub, AV.sub.subL] <;> (intros; omega))
    | (exfalso; omega)
theorem c_spec_l5Rows (rows : List WriteT) (hok : okL WriteT.ok rows) : PC Tryz.prog false 48 [.sl (rows.map WriteT.cells)] (.bool (okRw rows)) [] := by
  have hl := hok.1
  refine pc_at Tryz.func48 rfl (by kernel_rfl) 16 [.tmp 2] rfl rfl ?_
  repeat' (conv => whnf); first
 | (refine nameB_cases (b := x.Gone) (fun h => ?_) (fun h => ?_))
 | (refine nameB_dec (fun h => ?_) (fun h => ?_) <;> try simp only [lensB] at h)
 | (refine nameB_cases (fun h => ?_) (fun h => ?_) <;> try simp only [nmL, lensB] at h)
 | refine splitB_true ?_
 | refine splitB_false ?_
 | ((refine Loop_at [0, 5, 6] [] (Nat) (fun k => (rows.drop k).any WriteT.Gone = rows.any WriteT.Gone ∧ k ≤ rows.length) (fun k => [(7, .int .i64 (k : Nat))]) (fun k => []) (fun k => rows.length - k) 0 ⟨by first | (simp_all <;> fail) | rfl | fail, trivial⟩ trivial (by (try dsimp only); first | (exact ⟨rfl, Nat.zero_le _⟩) | fail) ?_; (conv => whnf); refine side_and (side_of (by first | exact fun k => rfl | exact fun k => by simp [headOk, closedE, closedO, closedL, AV.closed, hcap.closed, hasId, AObj.box, BK.ofB])) ?_; rintro k hT; try dsimp only at hT))
 | (refine Again_of (k + 1) ⟨by first | rfl | exact i64_next (by omega) | (simp_all <;> fail) | fail, trivial⟩ trivial (by first | (and_intros <;> first | rfl | trivial) | fail) (by first | (and_intros <;> first | rfl | trivial) | fail) rfl rfl rfl (by (try dsimp only); first | (exact ⟨any_go hT.1 hx (by assumption), by omega⟩) | fail) (show _ < _ by (try dsimp only); omega))
 | refine Call0 (c_spec_l3Writes rows hok) rfl rfl ?_
 | (refine ix_map (by omega) (by (try simp only [List.length_take]); omega) (fun x hx => ?_); try simp only [Int.toNat_natCast] at hx)
 | refine side_and (side_of (by first | (and_intros <;> first | exact Nat.le_of_ble_eq_true rfl | rfl | omega | (simp only [lensB, lensC]; omega) | exact bytes_ok (Nat.le_of_ble_eq_true rfl) (by omega) (by simp only [lensB, lensC]; omega) | exact bytes_okN (Nat.le_of_ble_eq_true rfl) (by simp only [lensB, lensC]; omega)) | fail)) ?_
 | fail
  all_goals
    conv => whnf
    refine OutA_plain rfl rfl ?_
    first
    | (have hb := any_hit hT.1 hx (by assumption); simp [okRw, hb, named, AV.sub]; done)
    | (have hb := any_end hT.1 (by assumption); simp_all [okRw, named, AV.sub]; done)
    | trace_state
def tellG (rows : List WriteT) (key : List UInt8) : GotT := match rows.find? (wEq key) with
  | some w => ⟨key, w.Val, true⟩
  | none => ⟨key, [], false⟩
theorem tellG_some {rows : List WriteT} {key : List UInt8} {w : WriteT} (h : rows.find? (wEq key) = some w) : tellG rows key = ⟨key, w.Val, true⟩ := by unfold tellG; rw [h]
theorem tellG_none {rows : List WriteT} {key : List UInt8} (h : rows.find? (wEq key) = none) : tellG rows key = ⟨key, [], false⟩ := by unfold tellG; rw [h]
theorem c_impl_gotOf (rows : List WriteT) (key : List UInt8) (hup : upW rows) (hl : rows.length ≤ 1048576) : PC Tryz.prog false 83 [.sl (rows.map WriteT.cells), .str key] (.agg (tellG rows key).cells) [] := by
  refine pc_at Tryz.func83 rfl (by kernel_rfl) 24 [.cell 4 70] rfl rfl ?_
  repeat' (conv => whnf); first
 | (refine nameB_cases (b := bsHit (wK key) rows) (fun h => ?_) (fun h => ?_))
 | refine ix_as (f := WriteT.cells) (m := bsPos (wK key) rows) rfl (bsHit_lt (by assumption)) (fun y hy => ?_)
 | refine nameB_true ?_
 | refine nameB_false ?_
 | refine splitB_true ?_
 | refine splitB_false ?_
 | refine Call0 (c_impl_findWrite rows key (by omega)) rfl rfl ?_
 | refine side_and (side_of (by first | (and_intros <;> first | exact Nat.le_of_ble_eq_true rfl | rfl | omega | (simp only [lensB, lensC]; omega) | exact bytes_ok (Nat.le_of_ble_eq_true rfl) (by omega) (by simp only [lensB, lensC]; omega) | exact bytes_okN (Nat.le_of_ble_eq_true rfl) (by simp only [lensB, lensC]; omega)) | fail)) ?_
 | fail
  all_goals
    conv => whnf
    refine OutA_plain rfl rfl ?_
    first
    | (rw [tellG_some (find_hit hup (by assumption) hy)]; rfl)
    | (rw [tellG_none (find_miss hup (by assumption))]; rfl)
    | trace_state
theorem c_spec_l5Tell (rows : List WriteT) (key : List UInt8) (hl : rows.length ≤ 1048576) : PC Tryz.prog false 79 [.sl (rows.map WriteT.cells), .str key] (.agg (tellG rows key).cells) [] := by
  refine pc_at Tryz.func79 rfl (by kernel_rfl) 24 [.cell 4 70] rfl rfl ?_
  repeat' (conv => whnf); first
 | refine ix_as (f := WriteT.cells) (m := j) rfl (by omega) (fun y hy => ?_)
 | (refine nameB_dec (fun h => ?_) (fun h => ?_) <;> try simp only [lensB] at h)
 | (refine nameB_cases (fun h => ?_) (fun h => ?_) <;> try simp only [nmL, lensB] at h)
 | refine splitB_true ?_
 | refine splitB_false ?_
 | ((refine Loop_at [1, 4, 7, 8] [] (Nat) (fun j => (rows.drop j).find? (wEq key) = rows.find? (wEq key) ∧ j ≤ rows.length) (fun j => [(9, .int .i64 (j : Nat))]) (fun j => [(0, ⟨true, 70, 3, [[.str [], .str [], .bool false]]⟩)]) (fun j => rows.length - j) 0 ⟨by first | (simp_all <;> fail) | rfl | fail, trivial⟩ ⟨by first | rfl | exact congrArg (fun e => some (AObj.mk _ _ _ e)) (set_rep hx) | exact congrArg (fun e => some (AObj.mk _ _ _ e)) start_rep | fail | fail, trivial⟩ (by (try dsimp only); first | (exact ⟨rfl, Nat.zero_le _⟩) | fail) ?_; (conv => whnf); refine side_and (side_of (by first | exact fun j => rfl | exact fun j => by simp [headOk, closedE, closedO, closedL, AV.closed, hcap.closed, hasId, AObj.box, BK.ofB])) ?_; rintro j hJ; try dsimp only at hJ))
 | (refine Again_of (j + 1) ⟨by first | rfl | exact i64_next (by omega) | (simp_all <;> fail) | fail, trivial⟩ ⟨by first | rfl | exact congrArg (fun e => some (AObj.mk _ _ _ e)) (set_rep hx) | exact congrArg (fun e => some (AObj.mk _ _ _ e)) start_rep | fail | fail, trivial⟩ (by first | (and_intros <;> first | rfl | trivial) | fail) (by first | (and_intros <;> first | rfl | trivial) | fail) rfl rfl rfl (by (try dsimp only); first | (exact ⟨find_go hJ.1 hy (by unfold wEq; rw [beq_eq_false_iff_ne]; assumption), by omega⟩) | fail) (show _ < _ by (try dsimp only); omega))
 | refine side_and (side_of (by first | (and_intros <;> first | exact Nat.le_of_ble_eq_true rfl | rfl | omega | (simp only [lensB, lensC]; omega) | exact bytes_ok (Nat.le_of_ble_eq_true rfl) (by omega) (by simp only [lensB, lensC]; omega) | exact bytes_okN (Nat.le_of_ble_eq_true rfl) (by simp only [lensB, lensC]; omega)) | fail)) ?_
 | fail
  all_goals
    conv => whnf
    refine OutA_plain rfl rfl ?_
    first
    | (rw [tellG_some (find_at hJ.1 hy (by unfold wEq; rw [beq_iff_eq]; assumption))]; rfl)
    | (rw [tellG_none (find_end hJ.1 (by assumption))]; rfl)
    | trace_state
end Go.Proofs.YthbheejeloomjaaGreatDoor
