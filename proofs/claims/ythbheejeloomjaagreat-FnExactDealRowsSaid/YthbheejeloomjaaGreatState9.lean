/-
  What the reference's functions that ask GoodState give.
  No condition.
-/
import Derived.Test.YthbheejeloomjaaGreatState8
import Derived.Test.YthbheejeloomjaaGreatState6
namespace Go.Proofs.YthbheejeloomjaaGreat
open Go.Ab
set_option linter.unusedSimpArgs false
set_option maxRecDepth 20000
set_option maxHeartbeats 4000000
set_option linter.unusedVariables false

def heldS (s : StateT) (pre : List HeldT) (h : HeldT) : Bool := okRec h.rec1 && decide (h.Time ≤ s.Floor) && prevB (fun a b => decide (a.Txn < b.Txn)) pre h && (pre.all fun g => apartS g h.Reads h.Writes) && !h.Writes.any (fun w => decide (lastS s.Cells w.Key ≥ h.Time))
def areHeldS (s : StateT) : Bool := allPre (heldS s) [] s.Held && (decide ((s.Held.length : Int) ≤ 12) && roomS s.Cells s.Held [])
theorem heldS_no {s : StateT} {pre : List HeldT} {h : HeldT} (q : okRec h.rec1 = false ∨ ¬ h.Time ≤ s.Floor ∨ prevB (fun a b : HeldT => decide (a.Txn < b.Txn)) pre h = false ∨ (pre.all fun g => apartS g h.Reads h.Writes) = false ∨ h.Writes.any (fun w => decide (lastS s.Cells w.Key ≥ h.Time)) = true) : heldS s pre h = false := by
  rcases q with q | q | q | q | q <;> simp only [heldS, q, decide_false, Bool.not_true, Bool.false_and, Bool.and_false]
theorem heldS_yes {s : StateT} {pre : List HeldT} {h : HeldT} (q1 : okRec h.rec1 = true) (q2 : h.Time ≤ s.Floor) (q3 : prevB (fun a b : HeldT => decide (a.Txn < b.Txn)) pre h = true) (q4 : (pre.all fun g => apartS g h.Reads h.Writes) = true) (q5 : h.Writes.any (fun w => decide (lastS s.Cells w.Key ≥ h.Time)) = false) : heldS s pre h = true := by
  simp only [heldS, q1, q2, q3, q4, q5, decide_true, Bool.not_false, Bool.true_and, Bool.and_true]
theorem all_hit {α : Type} {q : α → Bool} {xs : List α} {k : Nat} {x : α} {B : Bool} (h : (xs.drop k).all q = B) (hx : xs[k]? = some x) (hq : q x = false) : B = false := all_bad h hx hq
theorem c_spec_l13Held (s : StateT) (hok : s.ok) (hne : ∀ c ∈ s.Cells, 0 < c.Vers.length) (hsz : s.Cells.length + (allW [] s.Held).length ≤ 1048576) (hwl : ∀ h ∈ s.Held, h.Writes.length ≤ 1048576 ∧ h.Reads.length ≤ 1048576) : PC Tryz.prog false 66 [.agg s.cells] (.bool (areHeldS s)) [] := by
  have hl := hok.2.2.1.1
  refine pc_at Tryz.func66 rfl (by kernel_rfl) 86 [.tmp 2] rfl rfl ?_
  repeat' (conv => whnf); first
 | refine ix_as (f := HeldT.cells) (m := k - 1) (by simp only [i64_wrap_eq]; omega) (by omega) (fun y hy => ?_)
 | (refine ix_as (f := WriteT.cells) (m := j) rfl (by omega) (fun w hw => ?_))
 | (refine ix_as (f := HeldT.cells) (xs := s.Held.take k) (m := i) rfl (by rw [List.length_take]; omega) (fun p hp => ?_); have hpm := List.mem_of_mem_take (List.mem_of_getElem? hp))
 | (refine ix_as (f := HeldT.cells) (xs := s.Held) (m := k) rfl (by omega) (fun g hg => ?_); have hgm := List.mem_of_getElem? hg; have hgl := (hok.2.2.1.2 g hgm).2.2.2.2.1)
 | (refine nameB_cases (b := apartS p g.Reads g.Writes) (fun h => ?_) (fun h => ?_))
 | refine nameB_true ?_
 | refine nameB_false ?_
 | (refine nameB_dec (fun h => ?_) (fun h => ?_) <;> try simp only [lensB] at h)
 | (refine nameB_cases (fun h => ?_) (fun h => ?_) <;> try simp only [nmL, lensB] at h)
 | refine splitB_true ?_
 | refine splitB_false ?_
 | refine draw_text (by kernel_rfl) (by kernel_rfl) (by kernel_rfl) ?_
 | (refine Loop_at [1, 10, 11] [0] (Nat) (fun k => allPre (heldS s) (s.Held.take k) (s.Held.drop k) = allPre (heldS s) [] s.Held ∧ k ≤ s.Held.length) (fun k => [(12, .int .i64 (k : Nat))]) (fun k => []) (fun k => s.Held.length - k) 0 ⟨by first | (simp_all <;> fail) | rfl | fail, trivial⟩ trivial (by (try dsimp only); first | (exact ⟨rfl, by omega⟩) | fail) ?_; (conv => whnf); refine side_and (side_of (by first | exact fun k => rfl | exact fun k => by simp [headOk, closedE, closedO, closedL, AV.closed, hcap.closed, hasId, AObj.box, BK.ofB])) ?_; rintro k hT; try dsimp only at hT)
 | (refine Loop_at [1, 4, 10, 11, 12, 47, 48] [0, 12336] (Nat) (fun i => (((s.Held.take k).drop i).all fun x => apartS x g.Reads g.Writes) = ((s.Held.take k).all fun x => apartS x g.Reads g.Writes) ∧ i ≤ k) (fun i => [(49, .int .i64 (i : Nat))]) (fun i => []) (fun i => k - i) 0 ⟨by first | (simp_all <;> fail) | rfl | fail, trivial⟩ trivial (by (try dsimp only); first | (exact ⟨rfl, by omega⟩) | fail) ?_; (conv => whnf); refine side_and (side_of (by first | exact fun i => rfl | exact fun i => by simp [headOk, closedE, closedO, closedL, AV.closed, hcap.closed, hasId, AObj.box, BK.ofB])) ?_; rintro i hA; try dsimp only at hA)
 | (refine Loop_at [1, 4, 10, 11, 12, 62, 63] [0, 12336] (Nat) (fun j => ((g.Writes.drop j).any fun w => decide (lastS s.Cells w.Key ≥ g.Time)) = (g.Writes.any fun w => decide (lastS s.Cells w.Key ≥ g.Time)) ∧ j ≤ g.Writes.length) (fun j => [(64, .int .i64 (j : Nat))]) (fun j => []) (fun j => g.Writes.length - j) 0 ⟨by first | (simp_all <;> fail) | rfl | fail, trivial⟩ trivial (by (try dsimp only); first | (exact ⟨rfl, by omega⟩) | fail) ?_; (conv => whnf); refine side_and (side_of (by first | exact fun j => rfl | exact fun j => by simp [headOk, closedE, closedO, closedL, AV.closed, hcap.closed, hasId, AObj.box, BK.ofB])) ?_; rintro j hB; try dsimp only at hB)
 | refine Again_of (k + 1) ⟨by first | rfl | exact i64_next (by omega) | (simp_all <;> fail) | fail, trivial⟩ trivial (by first | (and_intros <;> first | rfl | trivial) | fail) (by first | (and_intros <;> first | rfl | trivial) | fail) rfl rfl rfl (by (try dsimp only); first | (first | exact ⟨allPre_go hT.1 hg (heldS_yes (by assumption) (by omega) (prevB_zero (by assumption)) (all_end hA.1 (by rw [List.length_take]; omega)) (any_end hB.1 (by assumption))), by omega⟩ | exact ⟨allPre_go hT.1 hg (heldS_yes (by assumption) (by omega) ((prevB_pos (by assumption) hy).trans (decide_eq_true (by omega))) (all_end hA.1 (by rw [List.length_take]; omega)) (any_end hB.1 (by assumption))), by omega⟩) | fail) (show _ < _ by (try dsimp only); omega)
 | refine Again_of (i + 1) ⟨by first | rfl | exact i64_next (by omega) | (simp_all <;> fail) | fail, trivial⟩ trivial (by first | (and_intros <;> first | rfl | trivial) | fail) (by first | (and_intros <;> first | rfl | trivial) | fail) rfl rfl rfl (by (try dsimp only); first | (exact ⟨all_go hA.1 hp (by assumption), by omega⟩) | fail) (show _ < _ by (try dsimp only); omega)
 | refine Again_of (j + 1) ⟨by first | rfl | exact i64_next (by omega) | (simp_all <;> fail) | fail, trivial⟩ trivial (by first | (and_intros <;> first | rfl | trivial) | fail) (by first | (and_intros <;> first | rfl | trivial) | fail) rfl rfl rfl (by (try dsimp only); first | (exact ⟨any_go hB.1 hw (decide_eq_false (by assumption)), by omega⟩) | fail) (show _ < _ by (try dsimp only); omega)
 | refine Call0 (c_spec_l13Apart p g.Reads g.Writes (hok.2.2.1.2 p hpm) (hok.2.2.1.2 g hgm).2.2.2.1.1 hgl) rfl rfl ?_
 | refine Call0 (PC.nil2 (c_spec_l13Room s [] hok hsz)) rfl rfl ?_
 | refine CallDT (c_spec_l13HeldRec g) rfl rfl rfl ⟨rfl, rfl⟩ ?_
 | refine CallD0 (c_spec_l4Good g.rec1 (rec1_ok (hok.2.2.1.2 g hgm)) (hwl g hgm).1 (hwl g hgm).2) rfl rfl rfl ?_
 | refine CallD0 (c_spec_l3Last s.Cells w.Key hok.2.1 hne) rfl rfl rfl ?_
 | refine sl_pre (by omega) (fun _ => rfl) ?_
 | refine side_and (side_of (by first | (and_intros <;> first | exact Nat.le_of_ble_eq_true rfl | rfl | omega | (simp only [lensB, lensC]; omega) | exact bytes_ok (Nat.le_of_ble_eq_true rfl) (by omega) (by simp only [lensB, lensC]; omega) | exact bytes_okN (Nat.le_of_ble_eq_true rfl) (by simp only [lensB, lensC]; omega)) | fail)) ?_
 | refine LoadK_of rfl rfl ?_
 | fail
  all_goals
    conv => whnf
    refine OutA_plain rfl rfl ?_
    first
    | (have hb := allPre_bad hT.1 hg (heldS_no (.inl (by assumption))); simp only [areHeldS, hb, Bool.false_and]; rfl)
    | (have hb := allPre_bad hT.1 hg (heldS_no (.inr (.inl (by omega)))); simp only [areHeldS, hb, Bool.false_and]; rfl)
    | (have hb := allPre_bad hT.1 hg (heldS_no (.inr (.inr (.inl ((prevB_pos (by assumption) hy).trans (decide_eq_false (by omega))))))); simp only [areHeldS, hb, Bool.false_and]; rfl)
    | (have hb := allPre_bad hT.1 hg (heldS_no (.inr (.inr (.inr (.inl (all_hit hA.1 hp (by assumption))))))); simp only [areHeldS, hb, Bool.false_and]; rfl)
    | (have hb := allPre_bad hT.1 hg (heldS_no (.inr (.inr (.inr (.inr (any_hit hB.1 hw (decide_eq_true (by assumption)))))))); simp only [areHeldS, hb, Bool.false_and]; rfl)
    | (have hb := allPre_end hT.1 (by assumption); simp only [areHeldS, hb, *, Bool.true_and, Bool.false_and, decide_true, decide_false]; rfl)
theorem find_go {α : Type} {q : α → Bool} {xs : List α} {k : Nat} {x : α} {B : Option α} (h : (xs.drop k).find? q = B) (hx : xs[k]? = some x) (hq : q x = false) : (xs.drop (k + 1)).find? q = B := by
  rw [drop_get hx, List.find?_cons_of_neg (by rw [hq]; simp)] at h
  exact h
theorem find_hit {α : Type} {q : α → Bool} {xs : List α} {k : Nat} {x : α} {B : Option α} (h : (xs.drop k).find? q = B) (hx : xs[k]? = some x) (hq : q x = true) : B = some x := by
  rw [drop_get hx, List.find?_cons_of_pos hq] at h
  exact h.symm
theorem find_end {α : Type} {q : α → Bool} {xs : List α} {k : Nat} {B : Option α} (h : (xs.drop k).find? q = B) (hk : ¬ (k : Int) < xs.length) : B = none := by
  rw [List.drop_eq_nil_of_le (by omega)] at h
  exact h.symm
def hEq (t : Int) (h : HeldT) : Bool := h.Txn == t
theorem c_spec_l13HeldOf_yes (s : StateT) (t : Int) (g : HeldT) (hok : s.ok) (hf : s.Held.find? (hEq t) = some g) : PC Tryz.prog true 68 [.agg s.cells, .int .i64 t] (.tup [.agg g.cells, .bool true]) [] := by
  have hl := hok.2.2.1.1
  refine pc_at Tryz.func68 rfl (by kernel_rfl) 22 [.cell 4 111, .tmp 5] rfl rfl ?_
  repeat' (conv => whnf); first
 | (refine nameB_dec (fun h => ?_) (fun h => ?_) <;> try simp only [lensB] at h)
 | refine splitB_true ?_
 | refine splitB_false ?_
 | ((refine Loop_at [1, 4, 9, 10] [16] (Nat) (fun k => (s.Held.drop k).find? (hEq t) = s.Held.find? (hEq t) ∧ k ≤ s.Held.length) (fun k => [(11, .int .i64 (k : Nat))]) (fun k => []) (fun k => s.Held.length - k) 0 ⟨by first | (simp_all <;> fail) | rfl | fail, trivial⟩ trivial (by (try dsimp only); first | (exact ⟨rfl, by omega⟩) | fail) ?_; (conv => whnf); refine side_and (side_of (by first | exact fun k => rfl | exact fun k => by simp [headOk, closedE, closedO, closedL, AV.closed, hcap.closed, hasId, AObj.box, BK.ofB])) ?_; rintro k hT; try dsimp only at hT))
 | (refine Again_of (k + 1) ⟨by first | rfl | exact i64_next (by omega) | (simp_all <;> fail) | fail, trivial⟩ trivial (by first | (and_intros <;> first | rfl | trivial) | fail) (by first | (and_intros <;> first | rfl | trivial) | fail) rfl rfl rfl (by (try dsimp only); first | (exact ⟨find_go hT.1 hx (beq_eq_false_iff_ne.2 (by assumption)), by omega⟩) | fail) (show _ < _ by (try dsimp only); omega))
 | (refine ix_map (by omega) (by (try simp only [List.length_take]); omega) (fun x hx => ?_); try simp only [Int.toNat_natCast] at hx)
 | refine side_and (side_of (by first | (and_intros <;> first | exact Nat.le_of_ble_eq_true rfl | rfl | omega | (simp only [lensB, lensC]; omega) | exact bytes_ok (Nat.le_of_ble_eq_true rfl) (by omega) (by simp only [lensB, lensC]; omega) | exact bytes_okN (Nat.le_of_ble_eq_true rfl) (by simp only [lensB, lensC]; omega)) | fail)) ?_
 | fail
  all_goals
    conv => whnf
    refine OutA_plain rfl rfl ?_
    first
    | (have hb := find_hit hT.1 hx (beq_iff_eq.2 (by assumption)); rw [hf] at hb; cases hb; rfl)
    | (have hb := find_end hT.1 (by assumption); rw [hf] at hb; cases hb)
theorem c_spec_l13HeldOf_no (s : StateT) (t : Int) (hok : s.ok) (hf : s.Held.find? (hEq t) = none) : PC Tryz.prog true 68 [.agg s.cells, .int .i64 t] (.tup [.agg [.int .i64 0, .int .i64 0, .int .i64 0, .nil, .nil], .bool false]) [] := by
  have hl := hok.2.2.1.1
  refine pc_at Tryz.func68 rfl (by kernel_rfl) 22 [.cell 4 111, .tmp 5] rfl rfl ?_
  repeat' (conv => whnf); first
 | (refine nameB_dec (fun h => ?_) (fun h => ?_) <;> try simp only [lensB] at h)
 | refine splitB_true ?_
 | refine splitB_false ?_
 | ((refine Loop_at [1, 4, 9, 10] [16] (Nat) (fun k => (s.Held.drop k).find? (hEq t) = s.Held.find? (hEq t) ∧ k ≤ s.Held.length) (fun k => [(11, .int .i64 (k : Nat))]) (fun k => []) (fun k => s.Held.length - k) 0 ⟨by first | (simp_all <;> fail) | rfl | fail, trivial⟩ trivial (by (try dsimp only); first | (exact ⟨rfl, by omega⟩) | fail) ?_; (conv => whnf); refine side_and (side_of (by first | exact fun k => rfl | exact fun k => by simp [headOk, closedE, closedO, closedL, AV.closed, hcap.closed, hasId, AObj.box, BK.ofB])) ?_; rintro k hT; try dsimp only at hT))
 | (refine Again_of (k + 1) ⟨by first | rfl | exact i64_next (by omega) | (simp_all <;> fail) | fail, trivial⟩ trivial (by first | (and_intros <;> first | rfl | trivial) | fail) (by first | (and_intros <;> first | rfl | trivial) | fail) rfl rfl rfl (by (try dsimp only); first | (exact ⟨find_go hT.1 hx (beq_eq_false_iff_ne.2 (by assumption)), by omega⟩) | fail) (show _ < _ by (try dsimp only); omega))
 | (refine ix_map (by omega) (by (try simp only [List.length_take]); omega) (fun x hx => ?_); try simp only [Int.toNat_natCast] at hx)
 | refine side_and (side_of (by first | (and_intros <;> first | exact Nat.le_of_ble_eq_true rfl | rfl | omega | (simp only [lensB, lensC]; omega) | exact bytes_ok (Nat.le_of_ble_eq_true rfl) (by omega) (by simp only [lensB, lensC]; omega) | exact bytes_okN (Nat.le_of_ble_eq_true rfl) (by simp only [lensB, lensC]; omega)) | fail)) ?_
 | fail
  all_goals
    conv => whnf
    refine OutA_plain rfl rfl ?_
    first
    | (have hb := find_hit hT.1 hx (beq_iff_eq.2 (by assumption)); rw [hf] at hb; cases hb)
    | rfl
def tolS (s : StateT) (pre : List ToldT) (t : ToldT) : Bool := inB 1 t.Txn 60 && prevB (fun a b => decide (a.Txn < b.Txn)) pre t && fitT s t && (s.Held.find? (hEq t.Txn)).isNone
def okStateS (s : StateT) : Bool := (inB 0 s.Floor 100000 && okCells s.Cells && areHeldS s && decide ((s.Told.length : Int) ≤ 60)) && (!(s.Cells.any fun c => decide (lastS s.Cells c.Key > s.Floor)) && allPre (tolS s) [] s.Told)
theorem tolS_no {s : StateT} {pre : List ToldT} {t : ToldT} (q : inB 1 t.Txn 60 = false ∨ fitT s t = false ∨ prevB (fun a b : ToldT => decide (a.Txn < b.Txn)) pre t = false ∨ (∃ g, s.Held.find? (hEq t.Txn) = some g)) : tolS s pre t = false := by
  rcases q with q | q | q | ⟨g, q⟩ <;> simp only [tolS, q, Option.isNone_some, Bool.false_and, Bool.and_false]
theorem tolS_yes {s : StateT} {pre : List ToldT} {t : ToldT} (q1 : inB 1 t.Txn 60 = true) (q2 : fitT s t = true) (q3 : prevB (fun a b : ToldT => decide (a.Txn < b.Txn)) pre t = true) (q4 : s.Held.find? (hEq t.Txn) = none) : tolS s pre t = true := by
  simp only [tolS, q1, q2, q3, q4, Option.isNone_none, Bool.true_and, Bool.and_true]
theorem allW_flat (hs : List HeldT) : (allW [] hs).length = (flatW hs).length := by
  unfold allW flatW
  simp [List.length_flatten, List.map_map, Function.comp_def]
theorem state_szW {s : StateT} (hw : s.w ≤ 1048576) : s.Cells.length + (allW [] s.Held).length ≤ 1048576 := by
  rw [allW_flat]
  have h1 := flatW_w s.Held
  have h2 : s.Cells.length ≤ wL CellT.w s.Cells := wL_len
  have h3 : s.w = wL CellT.w s.Cells + wL HeldT.w s.Held + s.Told.length := rfl
  omega
theorem c_spec_l2True6 (n : Int) : PC Tryz.prog false 17 [.int .i64 n] (.bool (inB 0 n 100000)) [] := by
  refine pc_at Tryz.func17 rfl (by kernel_rfl) 5 [.tmp 2] rfl rfl ?_
  repeat' (conv => whnf); first
 | (refine nameB_cases (fun h => ?_) (fun h => ?_) <;> try simp only [nmL, lensB] at h)
 | refine Call0 (c_spec_l1In ..) rfl rfl ?_
 | fail
  all_goals
    conv => whnf
    refine OutA_plain rfl rfl ?_
    first
    | rfl
    | (simp only [*, named, AV.sub, AV.sub.subL, Bool.and_true, Bool.and_false, Bool.true_and, Bool.false_and, Bool.or_true, Bool.or_false, Bool.true_or, Bool.false_or, Bool.not_true, Bool.not_false, if_true, if_false, decide_true, decide_false, Bool.false_eq_true, Bool.and_self]; done)
    | (simp_all [named, AV.sub, AV.sub.subL]; done)
    | (simp_all [named, AV.sub, AV.sub.subL] <;> (intros; omega))
    | (exfalso; omega)
theorem c_spec_l13Good (s : StateT) (hok : s.ok) (hw : s.w ≤ 1048576) : PC Tryz.prog false 37 [.agg s.cells] (.bool (okStateS s)) [] := by
  have hl := hok.2.1.1
  have hl2 := hok.2.2.2.1
  have hsz : s.Cells.length + (allW [] s.Held).length ≤ 1048576 := state_szW hw
  refine pc_at Tryz.func37 rfl (by kernel_rfl) 105 [.tmp 2] rfl rfl ?_
  repeat' (conv => whnf); first
 | refine ix_as (f := ToldT.cells) (m := j - 1) (by simp only [i64_wrap_eq]; omega) (by omega) (fun y hy => ?_)
 | refine ix_as (f := ToldT.cells) (m := j) rfl (by omega) (fun g hg => ?_)
 | refine nameB_yes (b := g.Yes) (by assumption) ?_
 | refine nameB_no (b := g.Yes) (by assumption) ?_
 | (refine nameB_cases (b := g.Yes) (fun h => ?_) (fun h => ?_))
 | refine nameB_true ?_
 | refine nameB_false ?_
 | (refine nameB_dec (fun h => ?_) (fun h => ?_) <;> try simp only [lensB] at h)
 | (refine nameB_cases (fun h => ?_) (fun h => ?_) <;> try simp only [nmL, lensB] at h)
 | refine splitB_true ?_
 | refine splitB_false ?_
 | refine draw_text (by kernel_rfl) (by kernel_rfl) (by kernel_rfl) ?_
 | (refine Loop_at [1, 31, 32] [0] (Nat) (fun k => ((s.Cells.drop k).any fun c => decide (lastS s.Cells c.Key > s.Floor)) = (s.Cells.any fun c => decide (lastS s.Cells c.Key > s.Floor)) ∧ k ≤ s.Cells.length) (fun k => [(33, .int .i64 (k : Nat))]) (fun k => []) (fun k => s.Cells.length - k) 0 ⟨by first | (simp_all <;> fail) | rfl | fail, trivial⟩ trivial (by (try dsimp only); first | (exact ⟨rfl, by omega⟩) | fail) ?_; (conv => whnf); refine side_and (side_of (by first | exact fun k => rfl | exact fun k => by simp [headOk, closedE, closedO, closedL, AV.closed, hcap.closed, hasId, AObj.box, BK.ofB])) ?_; rintro k hT; try dsimp only at hT)
 | (refine Loop_at [1, 47, 48] [0] (Nat) (fun j => allPre (tolS s) (s.Told.take j) (s.Told.drop j) = allPre (tolS s) [] s.Told ∧ j ≤ s.Told.length) (fun j => [(49, .int .i64 (j : Nat))]) (fun j => []) (fun j => s.Told.length - j) 0 ⟨by first | (simp_all <;> fail) | rfl | fail, trivial⟩ trivial (by (try dsimp only); first | (exact ⟨rfl, by omega⟩) | fail) ?_; (conv => whnf); refine side_and (side_of (by first | exact fun j => rfl | exact fun j => by simp [headOk, closedE, closedO, closedL, AV.closed, hcap.closed, hasId, AObj.box, BK.ofB])) ?_; rintro j hJ; try dsimp only at hJ)
 | refine Again_of (k + 1) ⟨by first | rfl | exact i64_next (by omega) | (simp_all <;> fail) | fail, trivial⟩ trivial (by first | (and_intros <;> first | rfl | trivial) | fail) (by first | (and_intros <;> first | rfl | trivial) | fail) rfl rfl rfl (by (try dsimp only); first | (exact ⟨any_go hT.1 hx (decide_eq_false (by assumption)), by omega⟩) | fail) (show _ < _ by (try dsimp only); omega)
 | refine Again_of (j + 1) ⟨by first | rfl | exact i64_next (by omega) | (simp_all <;> fail) | fail, trivial⟩ trivial (by first | (and_intros <;> first | rfl | trivial) | fail) (by first | (and_intros <;> first | rfl | trivial) | fail) rfl rfl rfl (by (try dsimp only); first | (first | exact ⟨allPre_go hJ.1 hg (tolS_yes (by assumption) (fit1 (by assumption) (by assumption)) (prevB_zero (by assumption)) (by assumption)), by omega⟩ | exact ⟨allPre_go hJ.1 hg (tolS_yes (by assumption) (fit1 (by assumption) (by assumption)) ((prevB_pos (by assumption) hy).trans (decide_eq_true (by omega))) (by assumption)), by omega⟩ | exact ⟨allPre_go hJ.1 hg (tolS_yes (by assumption) (fit2 (by assumption) (decide_eq_true (by assumption))) (prevB_zero (by assumption)) (by assumption)), by omega⟩ | exact ⟨allPre_go hJ.1 hg (tolS_yes (by assumption) (fit2 (by assumption) (decide_eq_true (by assumption))) ((prevB_pos (by assumption) hy).trans (decide_eq_true (by omega))) (by assumption)), by omega⟩) | fail) (show _ < _ by (try dsimp only); omega)
 | refine Call0 (c_spec_l2True6 ..) rfl rfl ?_
 | refine Call0 (c_spec_l3Good s.Cells hok.2.1) rfl rfl ?_
 | refine Call0 (c_spec_l13Held s hok (okCells_ne (by assumption)) hsz (state_wl hw)) rfl rfl ?_
 | (rcases hf : s.Held.find? (hEq g.Txn) with _ | hh <;> first | refine CallT (c_spec_l13HeldOf_no s g.Txn hok hf) rfl rfl rfl rfl (Nat.le_of_ble_eq_true rfl) ?_ | refine CallT (c_spec_l13HeldOf_yes s g.Txn hh hok hf) rfl rfl rfl rfl (Nat.le_of_ble_eq_true rfl) ?_)
 | refine CallD0 (c_spec_l1In ..) rfl rfl rfl ?_
 | refine CallD0 (c_spec_l3Last s.Cells x.Key hok.2.1 (okCells_ne (by assumption))) rfl rfl rfl ?_
 | (refine ix_map (by omega) (by (try simp only [List.length_take]); omega) (fun x hx => ?_); try simp only [Int.toNat_natCast] at hx)
 | refine side_and (side_of (by first | (and_intros <;> first | exact Nat.le_of_ble_eq_true rfl | rfl | omega | (simp only [lensB, lensC]; omega) | exact bytes_ok (Nat.le_of_ble_eq_true rfl) (by omega) (by simp only [lensB, lensC]; omega) | exact bytes_okN (Nat.le_of_ble_eq_true rfl) (by simp only [lensB, lensC]; omega)) | fail)) ?_
 | refine LoadK_of rfl rfl ?_
 | fail
  all_goals
    conv => whnf
    refine OutA_plain rfl rfl ?_
    first
    | (simp only [okStateS, *, Bool.false_and, Bool.and_false, Bool.true_and, decide_false]; rfl)
    | (have hb : decide ((s.Told.length : Int) ≤ 60) = false := decide_eq_false (by omega); simp only [okStateS, hb, Bool.and_false, Bool.false_and]; rfl)
    | (have hb := any_hit hT.1 hx (decide_eq_true (by assumption)); simp only [okStateS, hb, Bool.not_true, Bool.false_and, Bool.and_false]; rfl)
    | (have hb := allPre_bad hJ.1 hg (tolS_no (.inl (by assumption))); simp only [okStateS, hb, Bool.and_false]; rfl)
    | (have hb := allPre_bad hJ.1 hg (tolS_no (.inr (.inl (fit1 (by assumption) (by assumption))))); simp only [okStateS, hb, Bool.and_false]; rfl)
    | (have hb := allPre_bad hJ.1 hg (tolS_no (.inr (.inl (fit2 (by assumption) (decide_eq_false (by assumption)))))); simp only [okStateS, hb, Bool.and_false]; rfl)
    | (have hb := allPre_bad hJ.1 hg (tolS_no (.inr (.inr (.inl ((prevB_pos (by assumption) hy).trans (decide_eq_false (by omega))))))); simp only [okStateS, hb, Bool.and_false]; rfl)
    | (have hb := allPre_bad hJ.1 hg (tolS_no (.inr (.inr (.inr ⟨_, by assumption⟩)))); simp only [okStateS, hb, Bool.and_false]; rfl)
    | (have hb := any_end hT.1 (by assumption); have hb2 := allPre_end hJ.1 (by assumption); simp_all [okStateS, named, AV.sub]; done)
    | (exfalso; have q1 : g.Yes = true := (by assumption); exact absurd (q1.symm.trans (by assumption : g.Yes = false)) (by decide))
end Go.Proofs.YthbheejeloomjaaGreat
