/-
  What the functions on records and held transactions give.
  No condition.
-/
import Derived.Test.YthbheejeloomjaaGreatCells
import Derived.Test.YthbheejeloomjaaGreatSame
namespace Go.Proofs.YthbheejeloomjaaGreat
open Go.Ab
set_option linter.unusedSimpArgs false
set_option maxRecDepth 20000
set_option maxHeartbeats 2000000
set_option linter.unusedVariables false

def cmpS (a b : List UInt8) : Int := if Op.bytesLess a b = true then -1 else if Op.bytesLess b a = true then 1 else 0
def cmpI (a b : Int) : Int := if a < b then -1 else if a > b then 1 else 0
theorem c_cmp_isNaN_string (a : List UInt8) : PC Tryz.prog false 151 [.str a] (.bool false) [] := by
  refine pc_at Tryz.func151 rfl (by kernel_rfl) 6 [.tmp 2] rfl rfl ?_
  repeat' (conv => whnf); first
 | refine nameB_no (b := !(a == a)) (by simp) ?_
 | fail
  all_goals
    conv => whnf
    refine OutA_plain rfl rfl ?_
    first
    | rfl
    | (simp only [*, named, AV.sub, AV.sub.subL, Bool.and_true, Bool.and_false, Bool.true_and, Bool.false_and, Bool.or_true, Bool.or_false, Bool.true_or, Bool.false_or, Bool.not_true, Bool.not_false, if_true, if_false, decide_true, decide_false, Bool.false_eq_true, Bool.and_self]; done)
    | (simp_all [named, AV.sub, AV.sub.subL]; done)
    | (simp_all [named, AV.sub, AV.sub.subL] <;> (intros; omega))
    | (exfalso; omega)
theorem c_cmp_isNaN_int (a : Int) : PC Tryz.prog false 149 [.int .i64 a] (.bool false) [] := by
  refine pc_at Tryz.func149 rfl (by kernel_rfl) 6 [.tmp 2] rfl rfl ?_
  repeat' (conv => whnf); first
 | refine nameB_no (b := a != a) (by simp) ?_
 | fail
  all_goals
    conv => whnf
    refine OutA_plain rfl rfl ?_
    first
    | rfl
    | (simp only [*, named, AV.sub, AV.sub.subL, Bool.and_true, Bool.and_false, Bool.true_and, Bool.false_and, Bool.or_true, Bool.or_false, Bool.true_or, Bool.false_or, Bool.not_true, Bool.not_false, if_true, if_false, decide_true, decide_false, Bool.false_eq_true, Bool.and_self]; done)
    | (simp_all [named, AV.sub, AV.sub.subL]; done)
    | (simp_all [named, AV.sub, AV.sub.subL] <;> (intros; omega))
    | (exfalso; omega)
theorem c_cmp_Compare_string (a b : List UInt8) : PC Tryz.prog false 126 [.str a, .str b] (.int .i64 (cmpS a b)) [] := by
  refine pc_at Tryz.func126 rfl (by kernel_rfl) 20 [.tmp 4] rfl rfl ?_
  repeat' (conv => whnf); first
 | (conv => arg 1; rw [bl_leq, Bool.not_not])
 | refine nameB_false ?_
 | (refine nameB_cases (fun h => ?_) (fun h => ?_) <;> try simp only [nmL, lensB] at h)
 | refine splitB_true ?_
 | refine splitB_false ?_
 | refine Call0 (c_cmp_isNaN_string ..) rfl rfl ?_
 | fail
  all_goals
    conv => whnf
    refine OutA_plain rfl rfl ?_
    first
    | rfl
    | (simp only [cmpS, *, named, AV.sub, AV.sub.subL, Bool.and_true, Bool.and_false, Bool.true_and, Bool.false_and, Bool.or_true, Bool.or_false, Bool.true_or, Bool.false_or, Bool.not_true, Bool.not_false, if_true, if_false, decide_true, decide_false, Bool.false_eq_true, Bool.and_self]; done)
    | (simp_all [cmpS, named, AV.sub, AV.sub.subL]; done)
    | (simp_all [cmpS, named, AV.sub, AV.sub.subL] <;> (intros; omega))
    | (exfalso; omega)
theorem c_cmp_Compare_int (a b : Int) : PC Tryz.prog false 122 [.int .i64 a, .int .i64 b] (.int .i64 (cmpI a b)) [] := by
  refine pc_at Tryz.func122 rfl (by kernel_rfl) 20 [.tmp 4] rfl rfl ?_
  repeat' (conv => whnf); first
 | refine nameB_false ?_
 | (refine nameB_dec (fun h => ?_) (fun h => ?_) <;> try simp only [lensB] at h)
 | refine splitB_true ?_
 | refine splitB_false ?_
 | refine Call0 (c_cmp_isNaN_int ..) rfl rfl ?_
 | fail
  all_goals
    conv => whnf
    refine OutA_plain rfl rfl ?_
    first
    | rfl
    | (simp only [cmpI, *, named, AV.sub, AV.sub.subL, Bool.and_true, Bool.and_false, Bool.true_and, Bool.false_and, Bool.or_true, Bool.or_false, Bool.true_or, Bool.false_or, Bool.not_true, Bool.not_false, if_true, if_false, decide_true, decide_false, Bool.false_eq_true, Bool.and_self]; done)
    | (simp_all [cmpI, named, AV.sub, AV.sub.subL]; done)
    | (simp_all [cmpI, named, AV.sub, AV.sub.subL] <;> (intros; omega))
    | (exfalso; omega)
theorem c_BS_Cell (xs : List CellT) (key : List UInt8) (f : Nat) (caps : List AV) (c : CellT → Int) (hl : xs.length ≤ 9223372036854775807) (hcap : Caps caps) (hq : ∀ x ∈ xs, PC Tryz.prog false f (.agg x.cells :: .str key :: caps) (.int .i64 (c x)) []) : PC Tryz.prog false 147 [.sl (xs.map CellT.cells), .str key, .fn f caps] (.tup [.int .i64 (bsPos c xs : Nat), .bool (bsHit c xs)]) [] := by
  refine pc_at Tryz.func147 rfl (by kernel_rfl) 49 [.tmp 6, .tmp 7] rfl rfl ?_
  repeat' (conv => whnf); first
 | refine ix_as (m := (i + j) / 2) (mid_eq i j (by omega)) (by omega) (fun x hx => ?_)
 | (refine nameB_self (b := c x == 0) ?_)
 | (refine nameB_dec (fun h => ?_) (fun h => ?_) <;> try simp only [lensB] at h)
 | refine splitB_true ?_
 | refine splitB_false ?_
 | ((refine Loop_at [0, 1, 2, 8] [] (Nat × Nat) (fun j => match j with | (i, j) => bsGo c xs i j = bsPos c xs ∧ i ≤ j ∧ j ≤ xs.length) (fun j => match j with | (i, j) => [(9, .int .i64 (i : Nat)), (10, .int .i64 (j : Nat))]) (fun j => match j with | (i, j) => []) (fun j => match j with | (i, j) => j - i) (0, xs.length) ⟨by first | first | exact congrArg (fun n : Nat => AV.int .i64 (n : Int)) (List.length_map (CellT.cells)) | exact congrArg (AV.int .i64) (mid_next i j (by omega) (by omega)) | exact congrArg (AV.int .i64) (mid_eq i j (by omega)) | rfl | fail, by first | first | exact congrArg (fun n : Nat => AV.int .i64 (n : Int)) (List.length_map (CellT.cells)) | exact congrArg (AV.int .i64) (mid_next i j (by omega) (by omega)) | exact congrArg (AV.int .i64) (mid_eq i j (by omega)) | rfl | fail, trivial⟩ trivial (by (try dsimp only); first | (exact ⟨rfl, by omega, by omega⟩) | fail) ?_; (conv => whnf); refine side_and (side_of (by first | exact fun ⟨i, j⟩ => rfl | exact fun ⟨i, j⟩ => by simp [headOk, closedE, closedO, closedL, AV.closed, hcap.closed, hasId, AObj.box, BK.ofB])) ?_; rintro ⟨i, j⟩ hT; try dsimp only at hT))
 | refine Again_of ((i + j) / 2 + 1, j) ⟨by first | rfl | exact i64_next (by omega) | first | exact congrArg (fun n : Nat => AV.int .i64 (n : Int)) (List.length_map (CellT.cells)) | exact congrArg (AV.int .i64) (mid_next i j (by omega) (by omega)) | exact congrArg (AV.int .i64) (mid_eq i j (by omega)) | fail, by first | rfl | exact i64_next (by omega) | first | exact congrArg (fun n : Nat => AV.int .i64 (n : Int)) (List.length_map (CellT.cells)) | exact congrArg (AV.int .i64) (mid_next i j (by omega) (by omega)) | exact congrArg (AV.int .i64) (mid_eq i j (by omega)) | fail, trivial⟩ trivial (by first | (and_intros <;> first | rfl | trivial) | fail) (by first | (and_intros <;> first | rfl | trivial) | fail) rfl rfl rfl (by (try dsimp only); first | (first | exact ⟨(bsGo_lt (by omega) hx (by assumption)).symm.trans hT.1, by omega, by omega⟩ | exact ⟨(bsGo_ge (by omega) hx (by assumption)).symm.trans hT.1, by omega, by omega⟩) | fail) (show _ < _ by (try dsimp only); omega)
 | refine Again_of (i, (i + j) / 2) ⟨by first | rfl | exact i64_next (by omega) | first | exact congrArg (fun n : Nat => AV.int .i64 (n : Int)) (List.length_map (CellT.cells)) | exact congrArg (AV.int .i64) (mid_next i j (by omega) (by omega)) | exact congrArg (AV.int .i64) (mid_eq i j (by omega)) | fail, by first | rfl | exact i64_next (by omega) | first | exact congrArg (fun n : Nat => AV.int .i64 (n : Int)) (List.length_map (CellT.cells)) | exact congrArg (AV.int .i64) (mid_next i j (by omega) (by omega)) | exact congrArg (AV.int .i64) (mid_eq i j (by omega)) | fail, trivial⟩ trivial (by first | (and_intros <;> first | rfl | trivial) | fail) (by first | (and_intros <;> first | rfl | trivial) | fail) rfl rfl rfl (by (try dsimp only); first | (first | exact ⟨(bsGo_lt (by omega) hx (by assumption)).symm.trans hT.1, by omega, by omega⟩ | exact ⟨(bsGo_ge (by omega) hx (by assumption)).symm.trans hT.1, by omega, by omega⟩) | fail) (show _ < _ by (try dsimp only); omega)
 | refine Call0 (hq x (List.mem_of_getElem? hx)) (congrArg (fun l => _ :: _ :: l) (hcap.same _)) ((Bool.true_and _).trans ((Bool.true_and _).trans (hcap.known _))) ?_
 | (refine ix_map (by omega) (by (try simp only [List.length_take]); omega) (fun x hx => ?_); try simp only [Int.toNat_natCast] at hx)
 | refine side_and (side_of (by first | (and_intros <;> first | exact Nat.le_of_ble_eq_true rfl | rfl | omega | (simp only [lensB, lensC]; omega) | exact bytes_ok (Nat.le_of_ble_eq_true rfl) (by omega) (by simp only [lensB, lensC]; omega) | exact bytes_okN (Nat.le_of_ble_eq_true rfl) (by simp only [lensB, lensC]; omega)) | fail)) ?_
 | fail
  all_goals
    conv => whnf
    refine OutA_plain rfl rfl ?_
    have hB : bsPos c xs = i := hT.1.symm.trans (bsGo_end (by omega))
    first
    | (rw [hB, bsHit_at hB hx]; rfl)
    | (rw [hB, bsHit_end hB (by omega)]; rfl)
theorem c_BS_Write (xs : List WriteT) (key : List UInt8) (f : Nat) (caps : List AV) (c : WriteT → Int) (hl : xs.length ≤ 9223372036854775807) (hcap : Caps caps) (hq : ∀ x ∈ xs, PC Tryz.prog false f (.agg x.cells :: .str key :: caps) (.int .i64 (c x)) []) : PC Tryz.prog false 124 [.sl (xs.map WriteT.cells), .str key, .fn f caps] (.tup [.int .i64 (bsPos c xs : Nat), .bool (bsHit c xs)]) [] := by
  refine pc_at Tryz.func124 rfl (by kernel_rfl) 49 [.tmp 6, .tmp 7] rfl rfl ?_
  repeat' (conv => whnf); first
 | refine ix_as (m := (i + j) / 2) (mid_eq i j (by omega)) (by omega) (fun x hx => ?_)
 | (refine nameB_self (b := c x == 0) ?_)
 | (refine nameB_dec (fun h => ?_) (fun h => ?_) <;> try simp only [lensB] at h)
 | refine splitB_true ?_
 | refine splitB_false ?_
 | ((refine Loop_at [0, 1, 2, 8] [] (Nat × Nat) (fun j => match j with | (i, j) => bsGo c xs i j = bsPos c xs ∧ i ≤ j ∧ j ≤ xs.length) (fun j => match j with | (i, j) => [(9, .int .i64 (i : Nat)), (10, .int .i64 (j : Nat))]) (fun j => match j with | (i, j) => []) (fun j => match j with | (i, j) => j - i) (0, xs.length) ⟨by first | first | exact congrArg (fun n : Nat => AV.int .i64 (n : Int)) (List.length_map (WriteT.cells)) | exact congrArg (AV.int .i64) (mid_next i j (by omega) (by omega)) | exact congrArg (AV.int .i64) (mid_eq i j (by omega)) | rfl | fail, by first | first | exact congrArg (fun n : Nat => AV.int .i64 (n : Int)) (List.length_map (WriteT.cells)) | exact congrArg (AV.int .i64) (mid_next i j (by omega) (by omega)) | exact congrArg (AV.int .i64) (mid_eq i j (by omega)) | rfl | fail, trivial⟩ trivial (by (try dsimp only); first | (exact ⟨rfl, by omega, by omega⟩) | fail) ?_; (conv => whnf); refine side_and (side_of (by first | exact fun ⟨i, j⟩ => rfl | exact fun ⟨i, j⟩ => by simp [headOk, closedE, closedO, closedL, AV.closed, hcap.closed, hasId, AObj.box, BK.ofB])) ?_; rintro ⟨i, j⟩ hT; try dsimp only at hT))
 | refine Again_of ((i + j) / 2 + 1, j) ⟨by first | rfl | exact i64_next (by omega) | first | exact congrArg (fun n : Nat => AV.int .i64 (n : Int)) (List.length_map (WriteT.cells)) | exact congrArg (AV.int .i64) (mid_next i j (by omega) (by omega)) | exact congrArg (AV.int .i64) (mid_eq i j (by omega)) | fail, by first | rfl | exact i64_next (by omega) | first | exact congrArg (fun n : Nat => AV.int .i64 (n : Int)) (List.length_map (WriteT.cells)) | exact congrArg (AV.int .i64) (mid_next i j (by omega) (by omega)) | exact congrArg (AV.int .i64) (mid_eq i j (by omega)) | fail, trivial⟩ trivial (by first | (and_intros <;> first | rfl | trivial) | fail) (by first | (and_intros <;> first | rfl | trivial) | fail) rfl rfl rfl (by (try dsimp only); first | (first | exact ⟨(bsGo_lt (by omega) hx (by assumption)).symm.trans hT.1, by omega, by omega⟩ | exact ⟨(bsGo_ge (by omega) hx (by assumption)).symm.trans hT.1, by omega, by omega⟩) | fail) (show _ < _ by (try dsimp only); omega)
 | refine Again_of (i, (i + j) / 2) ⟨by first | rfl | exact i64_next (by omega) | first | exact congrArg (fun n : Nat => AV.int .i64 (n : Int)) (List.length_map (WriteT.cells)) | exact congrArg (AV.int .i64) (mid_next i j (by omega) (by omega)) | exact congrArg (AV.int .i64) (mid_eq i j (by omega)) | fail, by first | rfl | exact i64_next (by omega) | first | exact congrArg (fun n : Nat => AV.int .i64 (n : Int)) (List.length_map (WriteT.cells)) | exact congrArg (AV.int .i64) (mid_next i j (by omega) (by omega)) | exact congrArg (AV.int .i64) (mid_eq i j (by omega)) | fail, trivial⟩ trivial (by first | (and_intros <;> first | rfl | trivial) | fail) (by first | (and_intros <;> first | rfl | trivial) | fail) rfl rfl rfl (by (try dsimp only); first | (first | exact ⟨(bsGo_lt (by omega) hx (by assumption)).symm.trans hT.1, by omega, by omega⟩ | exact ⟨(bsGo_ge (by omega) hx (by assumption)).symm.trans hT.1, by omega, by omega⟩) | fail) (show _ < _ by (try dsimp only); omega)
 | refine Call0 (hq x (List.mem_of_getElem? hx)) (congrArg (fun l => _ :: _ :: l) (hcap.same _)) ((Bool.true_and _).trans ((Bool.true_and _).trans (hcap.known _))) ?_
 | (refine ix_map (by omega) (by (try simp only [List.length_take]); omega) (fun x hx => ?_); try simp only [Int.toNat_natCast] at hx)
 | refine side_and (side_of (by first | (and_intros <;> first | exact Nat.le_of_ble_eq_true rfl | rfl | omega | (simp only [lensB, lensC]; omega) | exact bytes_ok (Nat.le_of_ble_eq_true rfl) (by omega) (by simp only [lensB, lensC]; omega) | exact bytes_okN (Nat.le_of_ble_eq_true rfl) (by simp only [lensB, lensC]; omega)) | fail)) ?_
 | fail
  all_goals
    conv => whnf
    refine OutA_plain rfl rfl ?_
    have hB : bsPos c xs = i := hT.1.symm.trans (bsGo_end (by omega))
    first
    | (rw [hB, bsHit_at hB hx]; rfl)
    | (rw [hB, bsHit_end hB (by omega)]; rfl)
theorem c_BS_Held (xs : List HeldT) (key : Int) (f : Nat) (caps : List AV) (c : HeldT → Int) (hl : xs.length ≤ 9223372036854775807) (hcap : Caps caps) (hq : ∀ x ∈ xs, PC Tryz.prog false f (.agg x.cells :: .int .i64 key :: caps) (.int .i64 (c x)) []) : PC Tryz.prog false 120 [.sl (xs.map HeldT.cells), .int .i64 key, .fn f caps] (.tup [.int .i64 (bsPos c xs : Nat), .bool (bsHit c xs)]) [] := by
  refine pc_at Tryz.func120 rfl (by kernel_rfl) 49 [.tmp 6, .tmp 7] rfl rfl ?_
  repeat' (conv => whnf); first
 | refine ix_as (m := (i + j) / 2) (mid_eq i j (by omega)) (by omega) (fun x hx => ?_)
 | (refine nameB_self (b := c x == 0) ?_)
 | (refine nameB_dec (fun h => ?_) (fun h => ?_) <;> try simp only [lensB] at h)
 | refine splitB_true ?_
 | refine splitB_false ?_
 | ((refine Loop_at [0, 1, 2, 8] [] (Nat × Nat) (fun j => match j with | (i, j) => bsGo c xs i j = bsPos c xs ∧ i ≤ j ∧ j ≤ xs.length) (fun j => match j with | (i, j) => [(9, .int .i64 (i : Nat)), (10, .int .i64 (j : Nat))]) (fun j => match j with | (i, j) => []) (fun j => match j with | (i, j) => j - i) (0, xs.length) ⟨by first | first | exact congrArg (fun n : Nat => AV.int .i64 (n : Int)) (List.length_map (HeldT.cells)) | exact congrArg (AV.int .i64) (mid_next i j (by omega) (by omega)) | exact congrArg (AV.int .i64) (mid_eq i j (by omega)) | rfl | fail, by first | first | exact congrArg (fun n : Nat => AV.int .i64 (n : Int)) (List.length_map (HeldT.cells)) | exact congrArg (AV.int .i64) (mid_next i j (by omega) (by omega)) | exact congrArg (AV.int .i64) (mid_eq i j (by omega)) | rfl | fail, trivial⟩ trivial (by (try dsimp only); first | (exact ⟨rfl, by omega, by omega⟩) | fail) ?_; (conv => whnf); refine side_and (side_of (by first | exact fun ⟨i, j⟩ => rfl | exact fun ⟨i, j⟩ => by simp [headOk, closedE, closedO, closedL, AV.closed, hcap.closed, hasId, AObj.box, BK.ofB])) ?_; rintro ⟨i, j⟩ hT; try dsimp only at hT))
 | refine Again_of ((i + j) / 2 + 1, j) ⟨by first | rfl | exact i64_next (by omega) | first | exact congrArg (fun n : Nat => AV.int .i64 (n : Int)) (List.length_map (HeldT.cells)) | exact congrArg (AV.int .i64) (mid_next i j (by omega) (by omega)) | exact congrArg (AV.int .i64) (mid_eq i j (by omega)) | fail, by first | rfl | exact i64_next (by omega) | first | exact congrArg (fun n : Nat => AV.int .i64 (n : Int)) (List.length_map (HeldT.cells)) | exact congrArg (AV.int .i64) (mid_next i j (by omega) (by omega)) | exact congrArg (AV.int .i64) (mid_eq i j (by omega)) | fail, trivial⟩ trivial (by first | (and_intros <;> first | rfl | trivial) | fail) (by first | (and_intros <;> first | rfl | trivial) | fail) rfl rfl rfl (by (try dsimp only); first | (first | exact ⟨(bsGo_lt (by omega) hx (by assumption)).symm.trans hT.1, by omega, by omega⟩ | exact ⟨(bsGo_ge (by omega) hx (by assumption)).symm.trans hT.1, by omega, by omega⟩) | fail) (show _ < _ by (try dsimp only); omega)
 | refine Again_of (i, (i + j) / 2) ⟨by first | rfl | exact i64_next (by omega) | first | exact congrArg (fun n : Nat => AV.int .i64 (n : Int)) (List.length_map (HeldT.cells)) | exact congrArg (AV.int .i64) (mid_next i j (by omega) (by omega)) | exact congrArg (AV.int .i64) (mid_eq i j (by omega)) | fail, by first | rfl | exact i64_next (by omega) | first | exact congrArg (fun n : Nat => AV.int .i64 (n : Int)) (List.length_map (HeldT.cells)) | exact congrArg (AV.int .i64) (mid_next i j (by omega) (by omega)) | exact congrArg (AV.int .i64) (mid_eq i j (by omega)) | fail, trivial⟩ trivial (by first | (and_intros <;> first | rfl | trivial) | fail) (by first | (and_intros <;> first | rfl | trivial) | fail) rfl rfl rfl (by (try dsimp only); first | (first | exact ⟨(bsGo_lt (by omega) hx (by assumption)).symm.trans hT.1, by omega, by omega⟩ | exact ⟨(bsGo_ge (by omega) hx (by assumption)).symm.trans hT.1, by omega, by omega⟩) | fail) (show _ < _ by (try dsimp only); omega)
 | refine Call0 (hq x (List.mem_of_getElem? hx)) (congrArg (fun l => _ :: _ :: l) (hcap.same _)) ((Bool.true_and _).trans ((Bool.true_and _).trans (hcap.known _))) ?_
 | (refine ix_map (by omega) (by (try simp only [List.length_take]); omega) (fun x hx => ?_); try simp only [Int.toNat_natCast] at hx)
 | refine side_and (side_of (by first | (and_intros <;> first | exact Nat.le_of_ble_eq_true rfl | rfl | omega | (simp only [lensB, lensC]; omega) | exact bytes_ok (Nat.le_of_ble_eq_true rfl) (by omega) (by simp only [lensB, lensC]; omega) | exact bytes_okN (Nat.le_of_ble_eq_true rfl) (by simp only [lensB, lensC]; omega)) | fail)) ?_
 | fail
  all_goals
    conv => whnf
    refine OutA_plain rfl rfl ?_
    have hB : bsPos c xs = i := hT.1.symm.trans (bsGo_end (by omega))
    first
    | (rw [hB, bsHit_at hB hx]; rfl)
    | (rw [hB, bsHit_end hB (by omega)]; rfl)
end Go.Proofs.YthbheejeloomjaaGreat
