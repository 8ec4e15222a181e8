/-
  What the program's functions on held transactions give.
  No condition.
-/
import Derived.Test.YthbheejeloomjaaGreatState3
import Derived.Test.YthbheejeloomjaaGreatM4
import Derived.Test.YthbheejeloomjaaGreatLays
namespace Go.Proofs.YthbheejeloomjaaGreat
open Go.Ab
set_option linter.unusedSimpArgs false
set_option maxRecDepth 20000
set_option maxHeartbeats 2000000
set_option linter.unusedVariables false

def cK (key : List UInt8) (c : CellT) : Int := cmpS c.Key key
def wK (key : List UInt8) (w : WriteT) : Int := cmpS w.Key key
theorem bsHit_lt {α : Type} {c : α → Int} {xs : List α} (h : bsHit c xs = true) : bsPos c xs < xs.length := by
  unfold bsHit at h
  split at h
  · rename_i x hx; exact (List.getElem?_eq_some_iff.1 hx).1
  · cases h
theorem c_impl_findCell_1 (c : CellT) (key : List UInt8) : PC Tryz.prog false 148 [.agg c.cells, .str key] (.int .i64 (cK key c)) [] := by
  refine pc_at Tryz.func148 rfl (by kernel_rfl) 9 [.tmp 4] rfl rfl ?_
  repeat' (conv => whnf); first
 | refine Call0 (c_cmp_Compare_string c.Key key) rfl rfl ?_
 | refine side_and (side_of (by first | (and_intros <;> first | exact Nat.le_of_ble_eq_true rfl | rfl | omega | (simp only [lensB, lensC]; omega) | exact bytes_ok (Nat.le_of_ble_eq_true rfl) (by omega) (by simp only [lensB, lensC]; omega) | exact bytes_okN (Nat.le_of_ble_eq_true rfl) (by simp only [lensB, lensC]; omega)) | fail)) ?_
 | fail
  all_goals
    conv => whnf
    refine OutA_plain rfl rfl ?_
    first
    | rfl
    | (simp only [*, named, AV.sub, AV.sub.subL, Bool.and_true, Bool.and_false, Bool.true_and, Bool.false_and, Bool.or_true, Bool.or_false, Bool.true_or, Bool.false_or, Bool.not_true, Bool.not_false, if_true, if_false, decide_true, decide_false, Bool.false_eq_true, Bool.and_self]; done)
    | (simp_all [named, AV.sub, AV.sub.subL]; done)
    | (simp_all [named, AV.sub, AV.sub.subL] <;> (intros; omega))
    | (exfalso; omega)
theorem c_impl_findCell (l : List CellT) (key : List UInt8) (hl : l.length ≤ 9223372036854775807) : PC Tryz.prog false 119 [.sl (l.map CellT.cells), .str key] (.tup [.int .i64 (bsPos (cK key) l : Nat), .bool (bsHit (cK key) l)]) [] := by
  refine pc_at Tryz.func119 rfl (by kernel_rfl) 11 [.tmp 4, .tmp 5] rfl rfl ?_
  repeat' (conv => whnf); first
 | refine nameB_self (b := bsHit (cK key) l) ?_
 | refine Call0 (c_BS_Cell l key 148 [] (cK key) hl ⟨fun _ => rfl, fun _ => rfl, fun _ => rfl, fun _ => rfl, fun _ => rfl⟩ (fun x _ => c_impl_findCell_1 x key)) rfl rfl ?_
 | fail
  all_goals
    conv => whnf
    refine OutA_plain rfl rfl ?_
    first
    | rfl
    | (simp only [*, named, AV.sub, AV.sub.subL, Bool.and_true, Bool.and_false, Bool.true_and, Bool.false_and, Bool.or_true, Bool.or_false, Bool.true_or, Bool.false_or, Bool.not_true, Bool.not_false, if_true, if_false, decide_true, decide_false, Bool.false_eq_true, Bool.and_self]; done)
    | (simp_all [named, AV.sub, AV.sub.subL]; done)
    | (simp_all [named, AV.sub, AV.sub.subL] <;> (intros; omega))
    | (exfalso; omega)
def lastI (l : List CellT) (key : List UInt8) : Int := match l[bsPos (cK key) l]? with
  | some c => if bsHit (cK key) l = true then (match c.Vers.getLast? with | some v => v.Time | none => 0) else 0
  | none => 0
theorem lastI_no {l : List CellT} {key : List UInt8} (h : bsHit (cK key) l = false) : lastI l key = 0 := by
  unfold lastI
  split
  · rw [if_neg (by rw [h]; simp)]
  · rfl
theorem lastI_yes {l : List CellT} {key : List UInt8} {c : CellT} {v : VerT} (h : bsHit (cK key) l = true) (hx : l[bsPos (cK key) l]? = some c) (hv : c.Vers[c.Vers.length - 1]? = some v) : lastI l key = v.Time := by
  unfold lastI
  simp only [hx, h, if_true, List.getLast?_eq_getElem?, hv]
theorem c_impl_lastTime (l : List CellT) (key : List UInt8) (hok : okL CellT.ok l) (hne : ∀ c ∈ l, 0 < c.Vers.length) : PC Tryz.prog false 80 [.sl (l.map CellT.cells), .str key] (.int .i64 (lastI l key)) [] := by
  refine pc_at Tryz.func80 rfl (by kernel_rfl) 30 [.tmp 4] rfl rfl ?_
  repeat' (conv => whnf); first
 | (refine nameB_cases (b := bsHit (cK key) l) (fun h => ?_) (fun h => ?_))
 | refine ix_map_at hx ?_
 | refine ix_as (m := bsPos (cK key) l) rfl (bsHit_lt (by assumption)) (fun x hx => ?_)
 | refine ix_as (m := x.Vers.length - 1) (by have hnx := hne x (List.mem_of_getElem? hx); have hlx := (hok.2 x (List.mem_of_getElem? hx)).2.1; simp only [i64_wrap_eq, List.length_map]; omega) (by have hnx := hne x (List.mem_of_getElem? hx); omega) (fun v hv => ?_)
 | refine nameB_true ?_
 | refine nameB_false ?_
 | refine splitB_true ?_
 | refine splitB_false ?_
 | refine draw_text (by kernel_rfl) (by kernel_rfl) (by kernel_rfl) ?_
 | refine Call0 (c_impl_findCell l key hok.1) rfl rfl ?_
 | refine side_and (side_of (by first | (and_intros <;> first | exact Nat.le_of_ble_eq_true rfl | rfl | omega | (simp only [lensB, lensC]; omega) | exact bytes_ok (Nat.le_of_ble_eq_true rfl) (by omega) (by simp only [lensB, lensC]; omega) | exact bytes_okN (Nat.le_of_ble_eq_true rfl) (by simp only [lensB, lensC]; omega)) | fail)) ?_
 | refine LoadK_of rfl rfl ?_
 | fail
  all_goals
    conv => whnf
    refine OutA_plain rfl rfl ?_
    first
    | exact congrArg (AV.int .i64) (lastI_no (by assumption)).symm
    | exact congrArg (AV.int .i64) (lastI_yes (by assumption) hx hv).symm
theorem c_impl_findWrite_1 (c : WriteT) (key : List UInt8) : PC Tryz.prog false 125 [.agg c.cells, .str key] (.int .i64 (wK key c)) [] := by
  refine pc_at Tryz.func125 rfl (by kernel_rfl) 9 [.tmp 4] rfl rfl ?_
  repeat' (conv => whnf); first
 | refine Call0 (c_cmp_Compare_string c.Key key) rfl rfl ?_
 | refine side_and (side_of (by first | (and_intros <;> first | exact Nat.le_of_ble_eq_true rfl | rfl | omega | (simp only [lensB, lensC]; omega) | exact bytes_ok (Nat.le_of_ble_eq_true rfl) (by omega) (by simp only [lensB, lensC]; omega) | exact bytes_okN (Nat.le_of_ble_eq_true rfl) (by simp only [lensB, lensC]; omega)) | fail)) ?_
 | fail
  all_goals
    conv => whnf
    refine OutA_plain rfl rfl ?_
    first
    | rfl
    | (simp only [*, named, AV.sub, AV.sub.subL, Bool.and_true, Bool.and_false, Bool.true_and, Bool.false_and, Bool.or_true, Bool.or_false, Bool.true_or, Bool.false_or, Bool.not_true, Bool.not_false, if_true, if_false, decide_true, decide_false, Bool.false_eq_true, Bool.and_self]; done)
    | (simp_all [named, AV.sub, AV.sub.subL]; done)
    | (simp_all [named, AV.sub, AV.sub.subL] <;> (intros; omega))
    | (exfalso; omega)
theorem c_impl_findWrite (l : List WriteT) (key : List UInt8) (hl : l.length ≤ 9223372036854775807) : PC Tryz.prog false 86 [.sl (l.map WriteT.cells), .str key] (.tup [.int .i64 (bsPos (wK key) l : Nat), .bool (bsHit (wK key) l)]) [] := by
  refine pc_at Tryz.func86 rfl (by kernel_rfl) 11 [.tmp 4, .tmp 5] rfl rfl ?_
  repeat' (conv => whnf); first
 | refine nameB_self (b := bsHit (wK key) l) ?_
 | refine Call0 (c_BS_Write l key 125 [] (wK key) hl ⟨fun _ => rfl, fun _ => rfl, fun _ => rfl, fun _ => rfl, fun _ => rfl⟩ (fun x _ => c_impl_findWrite_1 x key)) rfl rfl ?_
 | fail
  all_goals
    conv => whnf
    refine OutA_plain rfl rfl ?_
    first
    | rfl
    | (simp only [*, named, AV.sub, AV.sub.subL, Bool.and_true, Bool.and_false, Bool.true_and, Bool.false_and, Bool.or_true, Bool.or_false, Bool.true_or, Bool.false_or, Bool.not_true, Bool.not_false, if_true, if_false, decide_true, decide_false, Bool.false_eq_true, Bool.and_self]; done)
    | (simp_all [named, AV.sub, AV.sub.subL]; done)
    | (simp_all [named, AV.sub, AV.sub.subL] <;> (intros; omega))
    | (exfalso; omega)
theorem c_Index_string (xs : List (List UInt8)) (v : List UInt8) (hl : xs.length ≤ 9223372036854775807) : PC Tryz.prog false 166 [.sl (xs.map strC), .str v] (.int .i64 (idxF (fun x => v == x) 0 xs)) [] := by
  refine pc_at Tryz.func166 rfl (by kernel_rfl) 19 [.tmp 4] rfl rfl ?_
  repeat' (conv => whnf); first
 | (refine nameB_dec (fun h => ?_) (fun h => ?_) <;> try simp only [lensB] at h)
 | (refine nameB_cases (fun h => ?_) (fun h => ?_) <;> try simp only [nmL, lensB] at h)
 | refine splitB_true ?_
 | refine splitB_false ?_
 | ((refine Loop_at [0, 1, 7] [] (Nat) (fun k => idxF (fun x => v == x) k (xs.drop k) = idxF (fun x => v == x) 0 xs ∧ k ≤ xs.length) (fun k => [(8, .int .i64 (k : Nat))]) (fun k => []) (fun k => xs.length - k) 0 ⟨by first | (simp_all <;> fail) | rfl | fail, trivial⟩ trivial (by (try dsimp only); first | trivial | (refine ⟨?_, by omega⟩; simp <;> fail) | (simp <;> fail) | fail) ?_; (conv => whnf); refine side_and (side_of (by first | exact fun k => rfl | exact fun k => by simp [headOk, closedE, closedO, closedL, AV.closed, hcap.closed, hasId, AObj.box, BK.ofB])) ?_; rintro k hT; try dsimp only at hT))
 | (refine Again_of (k + 1) ⟨by first | rfl | exact i64_next (by omega) | (simp_all <;> fail) | fail, trivial⟩ trivial (by first | (and_intros <;> first | rfl | trivial) | fail) (by first | (and_intros <;> first | rfl | trivial) | fail) rfl rfl rfl (by (try dsimp only); (refine ⟨?_, by omega⟩; first | (rw [← hT.1, drop_get hx]; simp_all [idxF, List.all_cons, List.any_cons] <;> fail) | (have hg := drop_get hx; simp_all [idxF, List.all_cons, List.any_cons] <;> fail) | fail)) (show _ < _ by (try dsimp only); omega))
 | (refine ix_map (by omega) (by (try simp only [List.length_take]); omega) (fun x hx => ?_); try simp only [Int.toNat_natCast] at hx)
 | refine side_and (side_of (by first | (and_intros <;> first | exact Nat.le_of_ble_eq_true rfl | rfl | omega | (simp only [lensB, lensC]; omega) | exact bytes_ok (Nat.le_of_ble_eq_true rfl) (by omega) (by simp only [lensB, lensC]; omega) | exact bytes_okN (Nat.le_of_ble_eq_true rfl) (by simp only [lensB, lensC]; omega)) | fail)) ?_
 | fail
  all_goals
    conv => whnf
    refine OutA_plain rfl rfl ?_
    first
    | (simp_all [idxF, named, AV.sub, AV.sub.subL]; done)
    | (rw [← hT.1, drop_get hx]; simp_all [idxF, List.all_cons, List.any_cons, named, AV.sub, AV.sub.subL]; done)
    | (have hg := drop_get hx; simp_all [idxF, List.all_cons, List.any_cons, named, AV.sub, AV.sub.subL]; done)
    | (rw [List.drop_eq_nil_of_le (by omega)] at hT; simp_all [idxF, named, AV.sub, AV.sub.subL]; done)
theorem c_Contains_string (xs : List (List UInt8)) (v : List UInt8) (hl : xs.length ≤ 9223372036854775807) : PC Tryz.prog false 160 [.sl (xs.map strC), .str v] (.bool (xs.any fun x => v == x)) [] := by
  refine pc_at Tryz.func160 rfl (by kernel_rfl) 9 [.tmp 4] rfl rfl ?_
  repeat' (conv => whnf); first
 | (refine nameB_dec (fun h => ?_) (fun h => ?_) <;> try simp only [lensB] at h)
 | refine Call0 (c_Index_string xs v hl) rfl rfl ?_
 | fail
  all_goals
    conv => whnf
    refine OutA_plain rfl rfl ?_
    first
    | exact congrArg AV.bool (idxF_pos.1 (by assumption)).symm
    | exact congrArg AV.bool (Bool.eq_false_iff.2 (fun e => absurd (idxF_pos.2 e) (by assumption))).symm
def overB (ws : List WriteT) (reads : List (List UInt8)) (others : List WriteT) : Bool := ws.any fun w => bsHit (wK w.Key) others || reads.any fun x => w.Key == x
theorem c_impl_overlap_1 (w : WriteT) (others : List WriteT) (reads : List (List UInt8)) (h1 : others.length ≤ 9223372036854775807) (h2 : reads.length ≤ 9223372036854775807) : PC Tryz.prog false 159 [.agg w.cells, .rp [.sl (others.map WriteT.cells)], .rp [.sl (reads.map strC)]] (.bool (bsHit (wK w.Key) others || reads.any fun x => w.Key == x)) [] := by
  refine pc_at Tryz.func159 rfl (by kernel_rfl) 21 [.tmp 4] rfl rfl ?_
  repeat' (conv => whnf); first
 | (refine nameB_cases (fun h => ?_) (fun h => ?_) <;> try simp only [nmL, lensB] at h)
 | refine splitB_true ?_
 | refine splitB_false ?_
 | refine Call0 (c_impl_findWrite others w.Key h1) rfl rfl ?_
 | refine Call0 (c_Contains_string reads w.Key h2) rfl rfl ?_
 | refine side_and (side_of (by first | (and_intros <;> first | exact Nat.le_of_ble_eq_true rfl | rfl | omega | (simp only [lensB, lensC]; omega) | exact bytes_ok (Nat.le_of_ble_eq_true rfl) (by omega) (by simp only [lensB, lensC]; omega) | exact bytes_okN (Nat.le_of_ble_eq_true rfl) (by simp only [lensB, lensC]; omega)) | fail)) ?_
 | fail
  all_goals
    conv => whnf
    refine OutA_plain rfl rfl ?_
    first
    | rfl
    | (simp only [*, named, AV.sub, AV.sub.subL, Bool.and_true, Bool.and_false, Bool.true_and, Bool.false_and, Bool.or_true, Bool.or_false, Bool.true_or, Bool.false_or, Bool.not_true, Bool.not_false, if_true, if_false, decide_true, decide_false, Bool.false_eq_true, Bool.and_self]; done)
    | (simp_all [named, AV.sub, AV.sub.subL]; done)
    | (simp_all [named, AV.sub, AV.sub.subL] <;> (intros; omega))
    | (exfalso; omega)
theorem c_impl_overlap (ws : List WriteT) (reads : List (List UInt8)) (others : List WriteT) (h0 : ws.length ≤ 9223372036854775807) (h1 : others.length ≤ 9223372036854775807) (h2 : reads.length ≤ 9223372036854775807) : PC Tryz.prog false 144 [.sl (ws.map WriteT.cells), .sl (reads.map strC), .sl (others.map WriteT.cells)] (.bool (overB ws reads others)) [] := by
  refine pc_at Tryz.func144 rfl (by kernel_rfl) 10 [.tmp 6] rfl rfl ?_
  repeat' (conv => whnf); first
 | (refine nameB_cases (fun h => ?_) (fun h => ?_) <;> try simp only [nmL, lensB] at h)
 | refine Call0 (c_ContainsFunc_Write ws 159 [.rp [.sl (others.map WriteT.cells)], .rp [.sl (reads.map strC)]] (fun w => bsHit (wK w.Key) others || reads.any fun x => w.Key == x) h0 ⟨fun _ => rfl, fun _ => rfl, fun _ => rfl, fun _ => rfl, fun _ => rfl⟩ (fun w _ => c_impl_overlap_1 w others reads h1 h2)) rfl rfl ?_
 | refine side_and (side_of (by first | (and_intros <;> first | exact Nat.le_of_ble_eq_true rfl | rfl | omega | (simp only [lensB, lensC]; omega) | exact bytes_ok (Nat.le_of_ble_eq_true rfl) (by omega) (by simp only [lensB, lensC]; omega) | exact bytes_okN (Nat.le_of_ble_eq_true rfl) (by simp only [lensB, lensC]; omega)) | fail)) ?_
 | fail
  all_goals
    conv => whnf
    refine OutA_plain rfl rfl ?_
    first
    | rfl
    | (simp only [overB, *, named, AV.sub, AV.sub.subL, Bool.and_true, Bool.and_false, Bool.true_and, Bool.false_and, Bool.or_true, Bool.or_false, Bool.true_or, Bool.false_or, Bool.not_true, Bool.not_false, if_true, if_false, decide_true, decide_false, Bool.false_eq_true, Bool.and_self]; done)
    | (simp_all [overB, named, AV.sub, AV.sub.subL]; done)
    | (simp_all [overB, named, AV.sub, AV.sub.subL] <;> (intros; omega))
    | (exfalso; omega)
def clashB (h k : HeldT) : Bool := overB h.Writes k.Reads k.Writes || overB k.Writes h.Reads h.Writes
theorem c_impl_clash (g k : HeldT) (ho : g.ok) (ko : k.ok) : PC Tryz.prog false 116 [.agg g.cells, .agg k.cells] (.bool (clashB g k)) [] := by
  refine pc_at Tryz.func116 rfl (by kernel_rfl) 21 [.tmp 4] rfl rfl ?_
  repeat' (conv => whnf); first
 | (refine nameB_cases (fun h => ?_) (fun h => ?_) <;> try simp only [nmL, lensB] at h)
 | refine splitB_true ?_
 | refine splitB_false ?_
 | refine Call0 (c_impl_overlap g.Writes k.Reads k.Writes ho.2.2.2.2.1 ko.2.2.2.2.1 ko.2.2.2.1.1) rfl rfl ?_
 | refine Call0 (c_impl_overlap k.Writes g.Reads g.Writes ko.2.2.2.2.1 ho.2.2.2.2.1 ho.2.2.2.1.1) rfl rfl ?_
 | refine side_and (side_of (by first | (and_intros <;> first | exact Nat.le_of_ble_eq_true rfl | rfl | omega | (simp only [lensB, lensC]; omega) | exact bytes_ok (Nat.le_of_ble_eq_true rfl) (by omega) (by simp only [lensB, lensC]; omega) | exact bytes_okN (Nat.le_of_ble_eq_true rfl) (by simp only [lensB, lensC]; omega)) | fail)) ?_
 | fail
  all_goals
    conv => whnf
    refine OutA_plain rfl rfl ?_
    first
    | rfl
    | (simp only [clashB, *, named, AV.sub, AV.sub.subL, Bool.and_true, Bool.and_false, Bool.true_and, Bool.false_and, Bool.or_true, Bool.or_false, Bool.true_or, Bool.false_or, Bool.not_true, Bool.not_false, if_true, if_false, decide_true, decide_false, Bool.false_eq_true, Bool.and_self]; done)
    | (simp_all [clashB, named, AV.sub, AV.sub.subL]; done)
    | (simp_all [clashB, named, AV.sub, AV.sub.subL] <;> (intros; omega))
    | (exfalso; omega)
theorem c_impl_State_areHeld_1 (h k : HeldT) (ho : h.ok) (ko : k.ok) : PC Tryz.prog false 115 [.agg k.cells, .rp h.cells] (.bool (clashB h k)) [] := by
  refine pc_at Tryz.func115 rfl (by kernel_rfl) 7 [.tmp 3] rfl rfl ?_
  repeat' (conv => whnf); first
 | (refine nameB_cases (fun h => ?_) (fun h => ?_) <;> try simp only [nmL, lensB] at h)
 | refine Call0 (c_impl_clash h k ho ko) rfl rfl ?_
 | refine side_and (side_of (by first | (and_intros <;> first | exact Nat.le_of_ble_eq_true rfl | rfl | omega | (simp only [lensB, lensC]; omega) | exact bytes_ok (Nat.le_of_ble_eq_true rfl) (by omega) (by simp only [lensB, lensC]; omega) | exact bytes_okN (Nat.le_of_ble_eq_true rfl) (by simp only [lensB, lensC]; omega)) | fail)) ?_
 | fail
  all_goals
    conv => whnf
    refine OutA_plain rfl rfl ?_
    first
    | rfl
    | (simp only [*, named, AV.sub, AV.sub.subL, Bool.and_true, Bool.and_false, Bool.true_and, Bool.false_and, Bool.or_true, Bool.or_false, Bool.true_or, Bool.false_or, Bool.not_true, Bool.not_false, if_true, if_false, decide_true, decide_false, Bool.false_eq_true, Bool.and_self]; done)
    | (simp_all [named, AV.sub, AV.sub.subL]; done)
    | (simp_all [named, AV.sub, AV.sub.subL] <;> (intros; omega))
    | (exfalso; omega)
theorem c_impl_State_areHeld_2 (h : HeldT) (s : StateT) (w : WriteT) (hok : okL CellT.ok s.Cells) (hne : ∀ c ∈ s.Cells, 0 < c.Vers.length) : PC Tryz.prog false 117 [.agg w.cells, .rp h.cells, .rp s.cells] (.bool (decide (h.Time ≤ lastI s.Cells w.Key))) [] := by
  refine pc_at Tryz.func117 rfl (by kernel_rfl) 13 [.tmp 4] rfl rfl ?_
  repeat' (conv => whnf); first
 | (refine nameB_dec (fun h => ?_) (fun h => ?_) <;> try simp only [lensB] at h)
 | refine draw_text (by kernel_rfl) (by kernel_rfl) (by kernel_rfl) ?_
 | refine CallD0 (c_impl_lastTime s.Cells w.Key hok hne) rfl rfl rfl ?_
 | refine side_and (side_of (by first | (and_intros <;> first | exact Nat.le_of_ble_eq_true rfl | rfl | omega | (simp only [lensB, lensC]; omega) | exact bytes_ok (Nat.le_of_ble_eq_true rfl) (by omega) (by simp only [lensB, lensC]; omega) | exact bytes_okN (Nat.le_of_ble_eq_true rfl) (by simp only [lensB, lensC]; omega)) | fail)) ?_
 | refine LoadK_of rfl rfl ?_
 | fail
  all_goals
    conv => whnf
    refine OutA_plain rfl rfl ?_
    first
    | rfl
    | (simp only [*, named, AV.sub, AV.sub.subL, Bool.and_true, Bool.and_false, Bool.true_and, Bool.false_and, Bool.or_true, Bool.or_false, Bool.true_or, Bool.false_or, Bool.not_true, Bool.not_false, if_true, if_false, decide_true, decide_false, Bool.false_eq_true, Bool.and_self]; done)
    | (simp_all [named, AV.sub, AV.sub.subL]; done)
    | (simp_all [named, AV.sub, AV.sub.subL] <;> (intros; omega))
    | (exfalso; omega)
end Go.Proofs.YthbheejeloomjaaGreat
