/-
  What the functions on cuts give.
  No condition.
-/
import Derived.Test.YthbheejeloomjaaGreatDoorStrs
namespace Go.Proofs.YthbheejeloomjaaGreatDoor
open Go.Ab
set_option linter.unusedSimpArgs false
set_option maxRecDepth 20000
set_option linter.unusedVariables false

def rising (p : Option (List UInt8)) : List (List UInt8) → Bool
  | [] => true
  | x :: xs => okKey x && (match p with | none => true | some q => Op.bytesLess q x) && rising (some x) xs
def prevOf {α : Type} (xs : List α) (k : Nat) : Option α := if k = 0 then none else xs[k - 1]?
theorem prevOf_next {α : Type} {xs : List α} {k : Nat} {x : α} (hx : xs[k]? = some x) : prevOf xs (k + 1) = some x := by simp [prevOf, hx]
theorem prevOf_pos {α : Type} {xs : List α} {k : Nat} {y : α} (h : (k : Int) > 0) (hy : xs[k - 1]? = some y) : prevOf xs k = some y := by
  unfold prevOf
  rw [if_neg (by omega)]
  exact hy
theorem prevOf_zero {α : Type} {xs : List α} {k : Nat} (h : ¬ (k : Int) > 0) : prevOf xs k = none := by
  unfold prevOf
  rw [if_pos (by omega)]
theorem rising_at {xs : List (List UInt8)} {k : Nat} {x : List UInt8} {B : Bool} (h : rising (prevOf xs k) (xs.drop k) = B) (hx : xs[k]? = some x) :
    (okKey x && (match prevOf xs k with | none => true | some q => Op.bytesLess q x) && rising (prevOf xs (k + 1)) (xs.drop (k + 1))) = B := by
  rw [drop_get hx] at h
  rw [prevOf_next hx]
  exact h
theorem rising_end {xs : List (List UInt8)} {k : Nat} {B : Bool} (h : rising (prevOf xs k) (xs.drop k) = B) (hk : ¬ (k : Int) < xs.length) : B = true := by
  rw [List.drop_eq_nil_of_le (by omega)] at h
  exact h.symm
theorem rising_bad1 {xs : List (List UInt8)} {k : Nat} {x : List UInt8} {B : Bool} (h : rising (prevOf xs k) (xs.drop k) = B) (hx : xs[k]? = some x) (h1 : okKey x = false) : B = false := by
  have := rising_at h hx
  rw [h1] at this
  simpa using this.symm
theorem rising_bad2 {xs : List (List UInt8)} {k : Nat} {x y : List UInt8} {B : Bool} (h : rising (prevOf xs k) (xs.drop k) = B) (hx : xs[k]? = some x) (hk : (k : Int) > 0) (hy : xs[k - 1]? = some y) (h1 : Op.bytesLess y x = false) : B = false := by
  have := rising_at h hx
  rw [prevOf_pos hk hy] at this
  simp only [h1] at this
  simpa using this.symm
theorem rising_go1 {xs : List (List UInt8)} {k : Nat} {x : List UInt8} {B : Bool} (h : rising (prevOf xs k) (xs.drop k) = B) (hx : xs[k]? = some x) (h1 : okKey x = true) (hk : ¬ (k : Int) > 0) : rising (prevOf xs (k + 1)) (xs.drop (k + 1)) = B := by
  have := rising_at h hx
  rw [prevOf_zero hk] at this
  simpa [h1] using this
theorem rising_go2 {xs : List (List UInt8)} {k : Nat} {x y : List UInt8} {B : Bool} (h : rising (prevOf xs k) (xs.drop k) = B) (hx : xs[k]? = some x) (h1 : okKey x = true) (hk : (k : Int) > 0) (hy : xs[k - 1]? = some y) (h2 : Op.bytesLess y x = true) : rising (prevOf xs (k + 1)) (xs.drop (k + 1)) = B := by
  have := rising_at h hx
  rw [prevOf_pos hk hy] at this
  simpa [h1, h2] using this
theorem leq_no {x y : List UInt8} (h : (Op.bytesLess x y || x == y) = true) : Op.bytesLess y x = false := by rw [bl_leq] at h; simpa using h
theorem leq_yes {x y : List UInt8} (h : (Op.bytesLess x y || x == y) = false) : Op.bytesLess y x = true := by rw [bl_leq] at h; simpa using h
theorem c_impl_areRising (xs : List (List UInt8)) (hok : okL okS xs) : PC Tryz.prog false 103 [.sl (xs.map strC)] (.bool (rising none xs)) [] := by
  have hl := hok.1
  refine pc_at Tryz.func103 rfl (by kernel_rfl) 29 [.tmp 2] rfl rfl ?_
  repeat' (conv => whnf); first
 | refine ix_as (m := k - 1) (by simp only [i64_wrap_eq]; omega) (by omega) (fun y hy => ?_)
 | (refine nameB_cases (b := Op.bytesLess _ _ || _ == _) (fun h => ?_) (fun h => ?_))
 | refine nameB_true ?_
 | refine nameB_false ?_
 | (refine nameB_dec (fun h => ?_) (fun h => ?_) <;> try simp only [lensB] at h)
 | (refine nameB_cases (fun h => ?_) (fun h => ?_) <;> try simp only [nmL, lensB] at h)
 | refine splitB_true ?_
 | refine splitB_false ?_
 | ((refine Loop_at [0, 5, 6] [] (Nat) (fun k => rising (prevOf xs k) (xs.drop k) = rising none xs ∧ k ≤ xs.length) (fun k => [(7, .int .i64 (k : Nat))]) (fun k => []) (fun k => xs.length - k) 0 ⟨by first | (simp_all <;> fail) | rfl | fail, trivial⟩ trivial (by (try dsimp only); first | (exact ⟨rfl, by omega⟩) | fail) ?_; (conv => whnf); refine side_and (side_of (by first | exact fun k => rfl | exact fun k => by simp [headOk, closedE, closedO, closedL, AV.closed, hcap.closed, hasId, AObj.box, BK.ofB])) ?_; rintro k hT; try dsimp only at hT))
 | (refine Again_of (k + 1) ⟨by first | rfl | exact i64_next (by omega) | (simp_all <;> fail) | fail, trivial⟩ trivial (by first | (and_intros <;> first | rfl | trivial) | fail) (by first | (and_intros <;> first | rfl | trivial) | fail) rfl rfl rfl (by (try dsimp only); first | (first | exact ⟨rising_go1 hT.1 hx (by assumption) (by assumption), by omega⟩ | exact ⟨rising_go2 hT.1 hx (by assumption) (by assumption) hy (leq_yes h), by omega⟩) | fail) (show _ < _ by (try dsimp only); omega))
 | refine Call0 (c_impl_GoodKey x (hok.2 x (List.mem_of_getElem? hx))) rfl rfl ?_
 | (refine ix_map (by omega) (by (try simp only [List.length_take]); omega) (fun x hx => ?_); try simp only [Int.toNat_natCast] at hx)
 | refine side_and (side_of (by first | (and_intros <;> first | exact Nat.le_of_ble_eq_true rfl | rfl | omega | (simp only [lensB, lensC]; omega) | exact bytes_ok (Nat.le_of_ble_eq_true rfl) (by omega) (by simp only [lensB, lensC]; omega) | exact bytes_okN (Nat.le_of_ble_eq_true rfl) (by simp only [lensB, lensC]; omega)) | fail)) ?_
 | fail
  all_goals
    conv => whnf
    refine OutA_plain rfl rfl ?_
    first
    | exact congrArg AV.bool (rising_bad1 hT.1 hx (by assumption)).symm
    | exact congrArg AV.bool (rising_bad2 hT.1 hx (by assumption) hy (leq_no h)).symm
    | exact congrArg AV.bool (rising_end hT.1 (by assumption)).symm
end Go.Proofs.YthbheejeloomjaaGreatDoor
