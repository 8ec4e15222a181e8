/-
  What stands under a key, and whether an operation goes on.
  No condition.
-/
import Derived.Test.YthbheejeloomjaaGreatDoorOps1
import Derived.Test.YthbheejeloomjaaGreatDoorPutW
namespace Go.Proofs.YthbheejeloomjaaGreatDoor
open Go.Ab
set_option linter.unusedSimpArgs false
set_option maxRecDepth 20000
set_option maxHeartbeats 4000000
set_option linter.unusedVariables false

def gEq (key : List UInt8) (g : GotT) : Bool := g.Key == key
def wEq (key : List UInt8) (w : WriteT) : Bool := w.Key == key
def readG (got : List GotT) (key : List UInt8) : List UInt8 × Bool × Bool := match got.find? (gEq key) with
  | some g => (g.Val, g.There, true)
  | none => ([], false, false)
def stands (ws : List WriteT) (got : List GotT) (key : List UInt8) : List UInt8 × Bool × Bool := match ws.find? (wEq key) with
  | some w => (w.Val, !w.Gone, true)
  | none => readG got key
theorem upW_bs {ws : List WriteT} (h : upW ws) (key : List UInt8) : ws.Pairwise fun a b => wK key b ≤ 0 → wK key a < 0 := h.imp fun hab hb => cmpS_neg.2 (ble_tr2 hab (cmpS_le hb))
theorem wEq_c {key : List UInt8} (w : WriteT) : wEq key w = (wK key w == 0) := by
  unfold wEq wK
  rw [Bool.eq_iff_iff, beq_iff_eq, beq_iff_eq]
  exact cmpS_zero.symm
theorem find_hit {ws : List WriteT} {key : List UInt8} {x : WriteT} (hup : upW ws) (hb : bsHit (wK key) ws = true) (hx : ws[bsPos (wK key) ws]? = some x) : ws.find? (wEq key) = some x := by
  rw [bs_find (upW_bs hup key) (p := wEq key) (fun w _ => wEq_c w) hb, hx]
theorem find_miss {ws : List WriteT} {key : List UInt8} (hup : upW ws) (hb : bsHit (wK key) ws = false) : ws.find? (wEq key) = none := by
  have h := bs_isSome (upW_bs hup key) (p := wEq key) (fun w _ => wEq_c w)
  rw [hb] at h
  cases hf : ws.find? (wEq key) with
  | none => rfl
  | some w => rw [hf] at h; cases h
theorem stands_some {ws : List WriteT} {got : List GotT} {key : List UInt8} {x : WriteT} (h : ws.find? (wEq key) = some x) : stands ws got key = (x.Val, !x.Gone, true) := by unfold stands; rw [h]
theorem stands_none {ws : List WriteT} {got : List GotT} {key : List UInt8} (h : ws.find? (wEq key) = none) : stands ws got key = readG got key := by unfold stands; rw [h]
theorem readG_some {got : List GotT} {key : List UInt8} {x : GotT} (h : got.find? (gEq key) = some x) : readG got key = (x.Val, x.There, true) := by unfold readG; rw [h]
theorem readG_none {got : List GotT} {key : List UInt8} (h : got.find? (gEq key) = none) : readG got key = ([], false, false) := by unfold readG; rw [h]
theorem find_go {α : Type} {p : α → Bool} {xs : List α} {k : Nat} {x : α} {B : Option α} (h : (xs.drop k).find? p = B) (hx : xs[k]? = some x) (hp : p x = false) : (xs.drop (k + 1)).find? p = B := by
  rw [drop_get hx, List.find?_cons, hp] at h
  exact h
theorem find_at {α : Type} {p : α → Bool} {xs : List α} {k : Nat} {x : α} {B : Option α} (h : (xs.drop k).find? p = B) (hx : xs[k]? = some x) (hp : p x = true) : B = some x := by
  rw [drop_get hx, List.find?_cons, hp] at h
  exact h.symm
theorem find_end {α : Type} {p : α → Bool} {xs : List α} {k : Nat} {B : Option α} (h : (xs.drop k).find? p = B) (hk : ¬ (k : Int) < xs.length) : B = none := by
  rw [List.drop_eq_nil_of_le (by omega)] at h
  exact h.symm
theorem c_impl_current (key : List UInt8) (ws : List WriteT) (got : List GotT) (hup : upW ws) (hl : ws.length ≤ 1048576) (hg : got.length ≤ 9223372036854775807) : PC Tryz.prog false 74 [.str key, .sl (ws.map WriteT.cells), .sl (got.map GotT.cells)] (.tup [.str (stands ws got key).1, .bool (stands ws got key).2.1, .bool (stands ws got key).2.2]) [] := by
  refine pc_at Tryz.func74 rfl (by kernel_rfl) 46 [.tmp 6, .tmp 7, .tmp 8] rfl rfl ?_
  repeat' (conv => whnf); first
 | (refine nameB_cases (b := bsHit (wK key) ws) (fun h => ?_) (fun h => ?_))
 | refine ix_at (f := WriteT.cells) (m := bsPos (wK key) ws) rfl hy ?_
 | refine ix_as (f := WriteT.cells) (m := bsPos (wK key) ws) rfl (bsHit_lt (by assumption)) (fun y hy => ?_)
 | (refine nameB_self (b := y.Gone) ?_)
 | (refine nameB_self (b := !y.Gone) ?_)
 | (refine nameB_self (b := x.There) ?_)
 | (refine nameB_dec (fun h => ?_) (fun h => ?_) <;> try simp only [lensB] at h)
 | (refine nameB_cases (fun h => ?_) (fun h => ?_) <;> try simp only [nmL, lensB] at h)
 | refine splitB_true ?_
 | refine splitB_false ?_
 | refine draw_text (by kernel_rfl) (by kernel_rfl) (by kernel_rfl) ?_
 | ((refine Loop_at [0, 31, 32] [] (Nat) (fun k => (got.drop k).find? (gEq key) = got.find? (gEq key) ∧ k ≤ got.length) (fun k => [(33, .int .i64 (k : Nat))]) (fun k => []) (fun k => got.length - k) 0 ⟨by first | (simp_all <;> fail) | rfl | fail, trivial⟩ trivial (by (try dsimp only); first | (exact ⟨rfl, Nat.zero_le _⟩) | fail) ?_; (conv => whnf); refine side_and (side_of (by first | exact fun k => rfl | exact fun k => by simp [headOk, closedE, closedO, closedL, AV.closed, hcap.closed, hasId, AObj.box, BK.ofB])) ?_; rintro k hT; try dsimp only at hT))
 | (refine Again_of (k + 1) ⟨by first | rfl | exact i64_next (by omega) | (simp_all <;> fail) | fail, trivial⟩ trivial (by first | (and_intros <;> first | rfl | trivial) | fail) (by first | (and_intros <;> first | rfl | trivial) | fail) rfl rfl rfl (by (try dsimp only); first | (exact ⟨find_go hT.1 hx (by unfold gEq; rw [beq_eq_false_iff_ne]; assumption), by omega⟩) | fail) (show _ < _ by (try dsimp only); omega))
 | refine Call0 (c_impl_findWrite ws key (by omega)) rfl rfl ?_
 | (refine ix_map (by omega) (by (try simp only [List.length_take]); omega) (fun x hx => ?_); try simp only [Int.toNat_natCast] at hx)
 | refine side_and (side_of (by first | (and_intros <;> first | exact Nat.le_of_ble_eq_true rfl | rfl | omega | (simp only [lensB, lensC]; omega) | exact bytes_ok (Nat.le_of_ble_eq_true rfl) (by omega) (by simp only [lensB, lensC]; omega) | exact bytes_okN (Nat.le_of_ble_eq_true rfl) (by simp only [lensB, lensC]; omega)) | fail)) ?_
 | refine LoadK_of rfl rfl ?_
 | fail
  all_goals
    conv => whnf
    refine OutA_plain rfl rfl ?_
    first
    | (rw [stands_some (find_hit hup (by assumption) hy)]; rfl)
    | (rw [stands_none (find_miss hup (by assumption)), readG_some (find_at hT.1 hx (by unfold gEq; rw [beq_iff_eq]; assumption))]; rfl)
    | (rw [stands_none (find_miss hup (by assumption)), readG_none (find_end hT.1 (by assumption))]; rfl)
    | trace_state
theorem c_spec_l5Stands (ws : List WriteT) (got : List GotT) (key : List UInt8) (hl : ws.length ≤ 1048576) (hg : got.length ≤ 9223372036854775807) : PC Tryz.prog false 61 [.sl (ws.map WriteT.cells), .sl (got.map GotT.cells), .str key] (.tup [.str (stands ws got key).1, .bool (stands ws got key).2.1, .bool (stands ws got key).2.2]) [] := by
  refine pc_at Tryz.func61 rfl (by kernel_rfl) 44 [.tmp 6, .tmp 7, .tmp 8] rfl rfl ?_
  repeat' (conv => whnf); first
 | refine ix_as (f := WriteT.cells) (m := j) rfl (by omega) (fun y hy => ?_)
 | (refine nameB_self (b := y.Gone) ?_)
 | (refine nameB_self (b := !y.Gone) ?_)
 | (refine nameB_self (b := x.There) ?_)
 | (refine nameB_dec (fun h => ?_) (fun h => ?_) <;> try simp only [lensB] at h)
 | (refine nameB_cases (fun h => ?_) (fun h => ?_) <;> try simp only [nmL, lensB] at h)
 | refine splitB_true ?_
 | refine splitB_false ?_
 | refine draw_text (by kernel_rfl) (by kernel_rfl) (by kernel_rfl) ?_
 | (refine Loop_at [1, 2, 13, 14] [] (Nat) (fun j => (ws.drop j).find? (wEq key) = ws.find? (wEq key) ∧ j ≤ ws.length) (fun j => [(15, .int .i64 (j : Nat))]) (fun j => []) (fun j => ws.length - j) 0 ⟨by first | (simp_all <;> fail) | rfl | fail, trivial⟩ trivial (by (try dsimp only); first | (exact ⟨rfl, Nat.zero_le _⟩) | fail) ?_; (conv => whnf); refine side_and (side_of (by first | exact fun j => rfl | exact fun j => by simp [headOk, closedE, closedO, closedL, AV.closed, hcap.closed, hasId, AObj.box, BK.ofB])) ?_; rintro j hJ; try dsimp only at hJ)
 | (refine Loop_at [2, 29, 30] [] (Nat) (fun k => (got.drop k).find? (gEq key) = got.find? (gEq key) ∧ k ≤ got.length) (fun k => [(31, .int .i64 (k : Nat))]) (fun k => []) (fun k => got.length - k) 0 ⟨by first | (simp_all <;> fail) | rfl | fail, trivial⟩ trivial (by (try dsimp only); first | (exact ⟨rfl, Nat.zero_le _⟩) | fail) ?_; (conv => whnf); refine side_and (side_of (by first | exact fun k => rfl | exact fun k => by simp [headOk, closedE, closedO, closedL, AV.closed, hcap.closed, hasId, AObj.box, BK.ofB])) ?_; rintro k hT; try dsimp only at hT)
 | refine Again_of (j + 1) ⟨by first | rfl | exact i64_next (by omega) | (simp_all <;> fail) | fail, trivial⟩ trivial (by first | (and_intros <;> first | rfl | trivial) | fail) (by first | (and_intros <;> first | rfl | trivial) | fail) rfl rfl rfl (by (try dsimp only); first | (exact ⟨find_go hJ.1 hy (by unfold wEq; rw [beq_eq_false_iff_ne]; assumption), by omega⟩) | fail) (show _ < _ by (try dsimp only); omega)
 | refine Again_of (k + 1) ⟨by first | rfl | exact i64_next (by omega) | (simp_all <;> fail) | fail, trivial⟩ trivial (by first | (and_intros <;> first | rfl | trivial) | fail) (by first | (and_intros <;> first | rfl | trivial) | fail) rfl rfl rfl (by (try dsimp only); first | (exact ⟨find_go hT.1 hx (by unfold gEq; rw [beq_eq_false_iff_ne]; assumption), by omega⟩) | fail) (show _ < _ by (try dsimp only); omega)
 | (refine ix_map (by omega) (by (try simp only [List.length_take]); omega) (fun x hx => ?_); try simp only [Int.toNat_natCast] at hx)
 | refine side_and (side_of (by first | (and_intros <;> first | exact Nat.le_of_ble_eq_true rfl | rfl | omega | (simp only [lensB, lensC]; omega) | exact bytes_ok (Nat.le_of_ble_eq_true rfl) (by omega) (by simp only [lensB, lensC]; omega) | exact bytes_okN (Nat.le_of_ble_eq_true rfl) (by simp only [lensB, lensC]; omega)) | fail)) ?_
 | fail
  all_goals
    conv => whnf
    refine OutA_plain rfl rfl ?_
    first
    | (rw [stands_some (find_at hJ.1 hy (by unfold wEq; rw [beq_iff_eq]; assumption))]; rfl)
    | (rw [stands_none (find_end hJ.1 (by assumption)), readG_some (find_at hT.1 hx (by unfold gEq; rw [beq_iff_eq]; assumption))]; rfl)
    | (rw [stands_none (find_end hJ.1 (by assumption)), readG_none (find_end hT.1 (by assumption))]; rfl)
    | trace_state
def addN (o : OpT) (val : List UInt8) : Int := IntKind.i64.wrap ((numS val).1 + o.By)
def holdsB (o : OpT) (val : List UInt8) (there : Bool) : Bool :=
  if o.Kind = 4 then !there || ((numS val).2 && inB (-999999) (addN o val) 999999)
  else if o.Kind = 5 then there && ((numS val).2 && decide ((numS val).1 ≥ o.By))
  else if o.Kind = 6 then !there
  else if o.Kind = 7 then there && decide (val = o.Val)
  else true
theorem c_impl_Op_holds (o : OpT) (val : List UInt8) (there : Bool) (hv : val.length ≤ 1048576) : PC Tryz.prog false 75 [.agg o.cells, .str val, .bool there] (.bool (holdsB o val there)) [] := by
  have hn := c_impl_NumberIn val hv
  rw [num_eq] at hn
  refine pc_at Tryz.func75 rfl (by kernel_rfl) 55 [.tmp 6] rfl rfl ?_
  repeat' (conv => whnf); first
 | (refine nameB_cases (b := (numS val).2) (fun h => ?_) (fun h => ?_))
 | (refine nameB_cases (b := inB (-999999) (IntKind.i64.wrap ((numS val).1 + o.By)) 999999) (fun h => ?_) (fun h => ?_))
 | (refine nameB_dec (fun h => ?_) (fun h => ?_) <;> try simp only [lensB] at h)
 | (refine nameB_cases (fun h => ?_) (fun h => ?_) <;> try simp only [nmL, lensB] at h)
 | refine splitB_true ?_
 | refine splitB_false ?_
 | (refine splitB_intro (fun h => ?_) (fun h => ?_) <;> subst h)
 | refine Call0 (hn) rfl rfl ?_
 | refine Call0 (c_impl_within ..) rfl rfl ?_
 | refine side_and (side_of (by first | (and_intros <;> first | exact Nat.le_of_ble_eq_true rfl | rfl | omega | (simp only [lensB, lensC]; omega) | exact bytes_ok (Nat.le_of_ble_eq_true rfl) (by omega) (by simp only [lensB, lensC]; omega) | exact bytes_okN (Nat.le_of_ble_eq_true rfl) (by simp only [lensB, lensC]; omega)) | fail)) ?_
 | fail
  all_goals
    conv => whnf
    refine OutA_plain rfl rfl ?_
    first
    | (simp_all [holdsB, addN, named, AV.sub, AV.sub.subL]; done)
    | (simp_all [holdsB, addN, named, AV.sub, AV.sub.subL] <;> (intros; omega))
    | trace_state
theorem c_spec_l5Gives (o : OpT) (val : List UInt8) (there : Bool) (hv : val.length ≤ 1048576) : PC Tryz.prog false 62 [.agg o.cells, .str val, .bool there] (.bool (!holdsB o val there)) [] := by
  refine pc_at Tryz.func62 rfl (by kernel_rfl) 57 [.tmp 6] rfl rfl ?_
  repeat' (conv => whnf); first
 | (refine nameB_cases (b := (numS val).2) (fun h => ?_) (fun h => ?_))
 | (refine nameB_cases (b := inB (-999999) (IntKind.i64.wrap ((numS val).1 + o.By)) 999999) (fun h => ?_) (fun h => ?_))
 | refine nameB_true ?_
 | refine nameB_false ?_
 | (refine nameB_dec (fun h => ?_) (fun h => ?_) <;> try simp only [lensB] at h)
 | (refine nameB_cases (fun h => ?_) (fun h => ?_) <;> try simp only [nmL, lensB] at h)
 | refine splitB_true ?_
 | refine splitB_false ?_
 | refine Call0 (c_spec_l5Num val hv) rfl rfl ?_
 | refine Call0 (c_spec_l1In ..) rfl rfl ?_
 | refine side_and (side_of (by first | (and_intros <;> first | exact Nat.le_of_ble_eq_true rfl | rfl | omega | (simp only [lensB, lensC]; omega) | exact bytes_ok (Nat.le_of_ble_eq_true rfl) (by omega) (by simp only [lensB, lensC]; omega) | exact bytes_okN (Nat.le_of_ble_eq_true rfl) (by simp only [lensB, lensC]; omega)) | fail)) ?_
 | fail
  all_goals
    conv => whnf
    refine OutA_plain rfl rfl ?_
    first
    | (simp_all [holdsB, addN, named, AV.sub, AV.sub.subL]; done)
    | (simp_all [holdsB, addN, named, AV.sub, AV.sub.subL] <;> (intros; omega))
    | trace_state
end Go.Proofs.YthbheejeloomjaaGreatDoor
