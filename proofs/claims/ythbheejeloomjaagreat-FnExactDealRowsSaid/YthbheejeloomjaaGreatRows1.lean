/-
  The values of all states at a time: what the functions give.
  No condition.
-/
import Derived.Test.YthbheejeloomjaaGreatRows0
import Derived.Test.YthbheejeloomjaaGreatDeal1
namespace Go.Proofs.YthbheejeloomjaaGreat
open Go.Ab
set_option linter.unusedSimpArgs false
set_option maxRecDepth 20000
set_option maxHeartbeats 4000000
set_option linter.unusedVariables false

theorem c_impl_cellsAt (cs : List CellT) (t : Int) (hl : cs.length ≤ 1048576) (hv : ∀ c ∈ cs, c.Vers.length ≤ 1048576) : PC Tryz.prog false 53 [.sl (cs.map CellT.cells), .int .i64 t] (.own 0) [⟨false, 53, 3, (rowsAt t cs).map WriteT.cells⟩] := by
  refine pc_at Tryz.func53 rfl (by kernel_rfl) 33 [.tmp 4] rfl rfl ?_
  repeat' (conv => whnf); first
 | (refine nameB_cases (b := (atV x.Vers t).2) (fun h => ?_) (fun h => ?_))
 | refine side_and (side_of (one_lenC rfl rfl)) ?_
 | refine side_and (side_of (by first | (and_intros <;> first | exact Nat.le_of_ble_eq_true rfl | rfl | (intro e; exact absurd (AV.own.inj e) (by decide)) | (intro e; exact AV.noConfusion e)) | fail)) ?_
 | refine side_and (side_of (app_boundC (L := (rowsAt t (cs.take k)).map WriteT.cells) rfl (by (have hq := rowsAt_len t (cs.take k); rw [List.length_take] at hq; simp only [List.length_map]; omega)) (Nat.le_of_ble_eq_true rfl))) ?_
 | (refine nameB_dec (fun h => ?_) (fun h => ?_) <;> try simp only [lensB] at h)
 | refine splitB_true ?_
 | refine splitB_false ?_
 | ((refine Loop_nil 5 4096 53 3 rfl rfl (by decide) ?_; refine Loop_at [1, 11, 12] [] (Nat) (fun k => k ≤ cs.length) (fun k => [(13, .int .i64 (k : Nat)), (5, .own 4096)]) (fun k => [(4096, ⟨false, 53, 3, (rowsAt t (cs.take k)).map WriteT.cells⟩)]) (fun k => cs.length - k) 0 ⟨by first | (simp_all <;> fail) | rfl | fail, by first | rfl | (simp_all <;> fail) | fail, trivial⟩ ⟨by first | rfl | first | rfl | exact congrArg (fun e => some (AObj.mk _ _ _ e)) (rowsAt_yes hx (by assumption) rfl) | exact congrArg (fun e => some (AObj.mk _ _ _ e)) (rowsAt_no hx (by assumption)) | fail | fail, trivial⟩ (by (try dsimp only); first | (exact Nat.zero_le _) | fail) ?_; (conv => whnf); refine side_and (side_of (by first | exact fun k => rfl | exact fun k => by simp [headOk, closedE, closedO, closedL, AV.closed, hcap.closed, hasId, AObj.box, BK.ofB])) ?_; rintro k hT; try dsimp only at hT))
 | (refine Again_of (k + 1) ⟨by first | rfl | exact i64_next (by omega) | (simp_all <;> fail) | fail, by first | rfl | (simp_all <;> fail) | fail, trivial⟩ ⟨by first | rfl | first | rfl | exact congrArg (fun e => some (AObj.mk _ _ _ e)) (rowsAt_yes hx (by assumption) rfl) | exact congrArg (fun e => some (AObj.mk _ _ _ e)) (rowsAt_no hx (by assumption)) | fail | fail, trivial⟩ (by first | (and_intros <;> first | rfl | trivial) | fail) (by first | (and_intros <;> first | rfl | trivial) | fail) rfl rfl rfl (by (try dsimp only); first | ((show k + 1 ≤ _; omega)) | fail) (show _ < _ by (try dsimp only); omega))
 | refine Call0 (c_impl_Cell_at x t (hv x (List.mem_of_getElem? hx))) rfl rfl ?_
 | (refine ix_map (by omega) (by (try simp only [List.length_take]); omega) (fun x hx => ?_); try simp only [Int.toNat_natCast] at hx)
 | fail
  all_goals
    conv => whnf
    exact OutA_ids rfl rfl rfl ⟨⟨_, _, _, rfl, congrArg (AObj.mk _ _ _) (by rw [List.take_of_length_le (by omega)])⟩, trivial⟩ rfl (.inr (flat_one (flat_map (fun _ => rfl) _)))
theorem c_spec_l3Ver (c : CellT) (t : Int) (hl : c.Vers.length ≤ 1048576) : PC Tryz.prog false 41 [.agg c.cells, .int .i64 t] (.tup [.agg (verS t c.Vers).1.cells, .bool (verS t c.Vers).2]) [] := by
  refine pc_at Tryz.func41 rfl (by kernel_rfl) 25 [.cell 4 85, .tmp 5] rfl rfl ?_
  repeat' (conv => whnf); first
 | (refine nameB_dec (fun h => ?_) (fun h => ?_) <;> try simp only [lensB] at h)
 | refine splitB_true ?_
 | refine splitB_false ?_
 | ((refine Loop_at [1, 4, 6, 11, 12] [16] (Nat) (fun k => k ≤ c.Vers.length) (fun k => [(13, .int .i64 (k : Nat)), (7, .bool (verS t (c.Vers.take k)).2)]) (fun k => [(4096, ⟨true, 85, 3, [(verS t (c.Vers.take k)).1.cells]⟩)]) (fun k => c.Vers.length - k) 0 ⟨by first | first | rfl | exact congrArg (fun q : VerT × Bool => AV.bool q.2) (verS_yes hx (by assumption)).symm | exact congrArg (fun q : VerT × Bool => AV.bool q.2) (verS_no hx (by assumption)).symm | rfl | fail, by first | rfl | first | rfl | exact congrArg (fun q : VerT × Bool => AV.bool q.2) (verS_yes hx (by assumption)).symm | exact congrArg (fun q : VerT × Bool => AV.bool q.2) (verS_no hx (by assumption)).symm | fail, trivial⟩ ⟨by first | rfl | first | rfl | exact congrArg (fun q : VerT × Bool => some (AObj.mk _ _ _ [q.1.cells])) (verS_yes hx (by assumption)).symm | exact congrArg (fun q : VerT × Bool => some (AObj.mk _ _ _ [q.1.cells])) (verS_no hx (by assumption)).symm | fail | fail, trivial⟩ (by (try dsimp only); first | (exact Nat.zero_le _) | fail) ?_; (conv => whnf); refine side_and (side_of (by first | exact fun k => rfl | exact fun k => by simp [headOk, closedE, closedO, closedL, AV.closed, hcap.closed, hasId, AObj.box, BK.ofB])) ?_; rintro k hT; try dsimp only at hT))
 | (refine Again_of (k + 1) ⟨by first | rfl | exact i64_next (by omega) | first | rfl | exact congrArg (fun q : VerT × Bool => AV.bool q.2) (verS_yes hx (by assumption)).symm | exact congrArg (fun q : VerT × Bool => AV.bool q.2) (verS_no hx (by assumption)).symm | fail, by first | rfl | first | rfl | exact congrArg (fun q : VerT × Bool => AV.bool q.2) (verS_yes hx (by assumption)).symm | exact congrArg (fun q : VerT × Bool => AV.bool q.2) (verS_no hx (by assumption)).symm | fail, trivial⟩ ⟨by first | rfl | first | rfl | exact congrArg (fun q : VerT × Bool => some (AObj.mk _ _ _ [q.1.cells])) (verS_yes hx (by assumption)).symm | exact congrArg (fun q : VerT × Bool => some (AObj.mk _ _ _ [q.1.cells])) (verS_no hx (by assumption)).symm | fail | fail, trivial⟩ (by first | (and_intros <;> first | rfl | trivial) | fail) (by first | (and_intros <;> first | rfl | trivial) | fail) rfl rfl rfl (by (try dsimp only); first | ((show k + 1 ≤ _; omega)) | fail) (show _ < _ by (try dsimp only); omega))
 | (refine ix_map (by omega) (by (try simp only [List.length_take]); omega) (fun x hx => ?_); try simp only [Int.toNat_natCast] at hx)
 | refine side_and (side_of (by first | (and_intros <;> first | exact Nat.le_of_ble_eq_true rfl | rfl | omega | (simp only [lensB, lensC]; omega) | exact bytes_ok (Nat.le_of_ble_eq_true rfl) (by omega) (by simp only [lensB, lensC]; omega) | exact bytes_okN (Nat.le_of_ble_eq_true rfl) (by simp only [lensB, lensC]; omega)) | fail)) ?_
 | fail
  all_goals
    conv => whnf
    have hke : c.Vers.take k = c.Vers := List.take_of_length_le (by omega)
    exact OutA_plain rfl rfl (by (try dsimp only); rw [hke]; rfl)
theorem rowsS_yes {t : Int} {cs : List CellT} {k : Nat} {x : CellT} {L : List (List AV)} (hx : cs[k]? = some x) (h1 : (verS t x.Vers).2 = true) (h2 : (verS t x.Vers).1.Gone = false) (hL : L = [[.str x.Key, .str (verS t x.Vers).1.Val, .bool false]]) : (rowsAt t (cs.take k)).map WriteT.cells ++ L = (rowsAt t (cs.take (k + 1))).map WriteT.cells := by
  have h := verS_at t x.Vers
  rw [h1, h2] at h
  refine rowsAt_yes hx h.1.symm ?_
  rw [hL, ← h.2 rfl]
theorem rowsS_no {t : Int} {cs : List CellT} {k : Nat} {x : CellT} (hx : cs[k]? = some x) (h1 : (verS t x.Vers).2 = false ∨ (verS t x.Vers).1.Gone = true) : (rowsAt t (cs.take k)).map WriteT.cells = (rowsAt t (cs.take (k + 1))).map WriteT.cells := by
  have h := (verS_at t x.Vers).1
  refine rowsAt_no hx ?_
  rw [← h]
  rcases h1 with h1 | h1 <;> rw [h1] <;> simp
theorem c_spec_l3All (cs : List CellT) (t : Int) (hl : cs.length ≤ 1048576) (hv : ∀ c ∈ cs, c.Vers.length ≤ 1048576) : PC Tryz.prog false 18 [.sl (cs.map CellT.cells), .int .i64 t] (.own 0) [⟨false, 53, 3, (rowsAt t cs).map WriteT.cells⟩] := by
  refine pc_at Tryz.func18 rfl (by kernel_rfl) 38 [.tmp 4] rfl rfl ?_
  repeat' (conv => whnf); first
 | (refine nameB_cases (b := (verS t x.Vers).2) (fun h => ?_) (fun h => ?_))
 | refine side_and (side_of (one_lenC rfl rfl)) ?_
 | refine side_and (side_of (by first | (and_intros <;> first | exact Nat.le_of_ble_eq_true rfl | rfl | (intro e; exact absurd (AV.own.inj e) (by decide)) | (intro e; exact AV.noConfusion e)) | fail)) ?_
 | refine side_and (side_of (app_boundC (L := (rowsAt t (cs.take k)).map WriteT.cells) rfl (by (have hq := rowsAt_len t (cs.take k); rw [List.length_take] at hq; simp only [List.length_map]; omega)) (Nat.le_of_ble_eq_true rfl))) ?_
 | refine nameB_true ?_
 | refine nameB_false ?_
 | (refine nameB_dec (fun h => ?_) (fun h => ?_) <;> try simp only [lensB] at h)
 | (refine nameB_cases (fun h => ?_) (fun h => ?_) <;> try simp only [nmL, lensB] at h)
 | refine splitB_true ?_
 | refine splitB_false ?_
 | ((refine Loop_nil 5 1 53 3 rfl rfl (by decide) ?_; refine Loop_at [1, 10, 11] [] (Nat) (fun k => k ≤ cs.length) (fun k => [(12, .int .i64 (k : Nat)), (5, .own 1)]) (fun k => [(1, ⟨false, 53, 3, (rowsAt t (cs.take k)).map WriteT.cells⟩)]) (fun k => cs.length - k) 0 ⟨by first | (simp_all <;> fail) | rfl | fail, by first | rfl | (simp_all <;> fail) | fail, trivial⟩ ⟨by first | rfl | first | rfl | exact congrArg (fun e => some (AObj.mk _ _ _ e)) (rowsS_yes hx (by assumption) (by assumption) rfl) | exact congrArg (fun e => some (AObj.mk _ _ _ e)) (rowsS_no hx (.inl (by assumption))) | exact congrArg (fun e => some (AObj.mk _ _ _ e)) (rowsS_no hx (.inr (by assumption))) | fail | fail, trivial⟩ (by (try dsimp only); first | (exact Nat.zero_le _) | fail) ?_; (conv => whnf); refine side_and (side_of (by first | exact fun k => rfl | exact fun k => by simp [headOk, closedE, closedO, closedL, AV.closed, hcap.closed, hasId, AObj.box, BK.ofB])) ?_; rintro k hT; try dsimp only at hT))
 | (refine Again_of (k + 1) ⟨by first | rfl | exact i64_next (by omega) | (simp_all <;> fail) | fail, by first | rfl | (simp_all <;> fail) | fail, trivial⟩ ⟨by first | rfl | first | rfl | exact congrArg (fun e => some (AObj.mk _ _ _ e)) (rowsS_yes hx (by assumption) (by assumption) rfl) | exact congrArg (fun e => some (AObj.mk _ _ _ e)) (rowsS_no hx (.inl (by assumption))) | exact congrArg (fun e => some (AObj.mk _ _ _ e)) (rowsS_no hx (.inr (by assumption))) | fail | fail, trivial⟩ (by first | (and_intros <;> first | rfl | trivial) | fail) (by first | (and_intros <;> first | rfl | trivial) | fail) rfl rfl rfl (by (try dsimp only); first | ((show k + 1 ≤ _; omega)) | fail) (show _ < _ by (try dsimp only); omega))
 | refine Call0 (c_spec_l3Ver x t (hv x (List.mem_of_getElem? hx))) rfl rfl ?_
 | (refine ix_map (by omega) (by (try simp only [List.length_take]); omega) (fun x hx => ?_); try simp only [Int.toNat_natCast] at hx)
 | fail
  all_goals
    conv => whnf
    exact OutA_ids rfl rfl rfl ⟨⟨_, _, _, rfl, congrArg (AObj.mk _ _ _) (by rw [List.take_of_length_le (by omega)])⟩, trivial⟩ rfl (.inr (flat_one (flat_map (fun _ => rfl) _)))
theorem fold_next {g : List WriteT → WriteT → List WriteT} {xs acc : List WriteT} {j : Nat} {y : WriteT} (hy : xs[j]? = some y) : (xs.take (j + 1)).foldl g acc = g ((xs.take j).foldl g acc) y := by rw [take_get hy, List.foldl_append]; rfl
theorem rowsI_next {ss : List StateT} {t : Int} {k j : Nat} {x : StateT} (hx : ss[k]? = some x) (hj : ¬ (j : Int) < (rowsAt t x.Cells).length) : ((rowsAt t x.Cells).take j).foldl putW (rowsI (ss.take k) t) = rowsI (ss.take (k + 1)) t := by
  rw [List.take_of_length_le (l := rowsAt t x.Cells) (by omega)]
  unfold rowsI
  rw [vals_take ss t hx, List.foldl_append]
theorem rowsS_next {ss : List StateT} {t : Int} {k j : Nat} {x : StateT} (hx : ss[k]? = some x) (hj : ¬ (j : Int) < (rowsAt t x.Cells).length) : ((rowsAt t x.Cells).take j).foldl putWS (rowsS (ss.take k) t) = rowsS (ss.take (k + 1)) t := by
  rw [List.take_of_length_le (l := rowsAt t x.Cells) (by omega)]
  unfold rowsS
  rw [vals_take ss t hx, List.foldl_append]
theorem accI_len {ss : List StateT} {t : Int} {k j : Nat} {x : StateT} (hx : ss[k]? = some x) (hj : j ≤ (rowsAt t x.Cells).length) : (((rowsAt t x.Cells).take j).foldl putW (rowsI (ss.take k) t)).length ≤ wL StateT.w ss := by
  have h1 := putW_fold_len ((rowsAt t x.Cells).take j) (rowsI (ss.take k) t)
  have h2 := putW_fold_len (valsOf (ss.take k) t) []
  have h3 := vals_pre ss t hx
  have h4 := vals_len ss t
  rw [List.length_take] at h1
  unfold rowsI at h1 ⊢
  simp only [List.length_nil] at h2
  omega
theorem accS_len {ss : List StateT} {t : Int} {k j : Nat} {x : StateT} (hx : ss[k]? = some x) (hj : j ≤ (rowsAt t x.Cells).length) : (((rowsAt t x.Cells).take j).foldl putWS (rowsS (ss.take k) t)).length ≤ wL StateT.w ss := by
  have h1 := putWS_fold_len ((rowsAt t x.Cells).take j) (rowsS (ss.take k) t)
  have h2 := putWS_fold_len (valsOf (ss.take k) t) []
  have h3 := vals_pre ss t hx
  have h4 := vals_len ss t
  rw [List.length_take] at h1
  unfold rowsS at h1 ⊢
  simp only [List.length_nil] at h2
  omega
theorem st_rows {s : StateT} (hw : s.w ≤ 1048576) : s.Cells.length ≤ 1048576 ∧ ∀ c ∈ s.Cells, c.Vers.length ≤ 1048576 := by
  have h3 : s.w = wL CellT.w s.Cells + wL HeldT.w s.Held + s.Told.length := rfl
  have h2 := wL_len (w := CellT.w) (xs := s.Cells)
  refine ⟨by omega, fun c hc => ?_⟩
  have h4 := (wL_mem (w := CellT.w) hc).2
  have h5 : c.w = c.Key.length + wL VerT.w c.Vers := rfl
  have h6 := wL_len (w := VerT.w) (xs := c.Vers)
  omega
theorem okRows {ss : List StateT} {t : Int} (hok : ∀ s ∈ ss, s.ok) (hw : wL StateT.w ss ≤ 1048576) : okL WriteT.ok (rowsS ss t) ∧ (rowsS ss t).length ≤ 1048576 := by
  have h2 := putWS_fold_len (valsOf ss t) []
  have h4 := vals_len ss t
  simp only [List.length_nil] at h2
  have h : (rowsS ss t).length ≤ 1048576 := by unfold rowsS; omega
  exact ⟨⟨by omega, rows_ok hok⟩, h⟩
theorem c_impl_rowsOf (ss : List StateT) (t : Int) (hok : ∀ s ∈ ss, s.ok) (hw : wL StateT.w ss ≤ 1048576) : PC Tryz.prog false 26 [.sl (ss.map StateT.cells), .int .i64 t] (.tup [.own 0, .bool (okWrites (rowsS ss t))]) [⟨false, 53, 3, (resWr (okWrites (rowsS ss t)) (rowsS ss t)).map WriteT.cells⟩] := by
  have hl := wL_len (w := StateT.w) (xs := ss)
  have hsw : ∀ s ∈ ss, s.w ≤ 1048576 := fun s hs => Nat.le_trans (wL_mem (w := StateT.w) hs).2 hw
  have hokR := okRows (t := t) hok hw
  refine pc_at Tryz.func26 rfl (by kernel_rfl) 36 [.tmp 4, .tmp 5] rfl rfl ?_
  repeat' (conv => whnf); first
 | (refine ix_as (f := StateT.cells) (m := k) rfl (by omega) (fun x hx => ?_); have hcl := rowsAt_len t x.Cells; have hsr := st_rows (hsw x (List.mem_of_getElem? hx)))
 | (show ∃ e, _ ∧ Go.Ab.LoadK _ _ _ _; refine ix_ownX (f := WriteT.cells) (by (try simp only [Int.toNat_natCast]); omega) (fun y hy => ?_); try simp only [Int.toNat_natCast] at hy)
 | (refine nameB_cases (b := okWrites (rowsS ss t)) (fun h => ?_) (fun h => ?_))
 | refine nameB_true ?_
 | refine nameB_false ?_
 | (refine nameB_dec (fun h => ?_) (fun h => ?_) <;> try simp only [lensB] at h)
 | refine splitB_true ?_
 | refine splitB_false ?_
 | (refine Loop_nil 6 4096 53 3 rfl rfl (by decide) ?_; refine Loop_at [1, 12, 13] [] (Nat) (fun k => k ≤ ss.length) (fun k => [(14, .int .i64 (k : Nat)), (6, .own 4096)]) (fun k => [(4096, ⟨false, 53, 3, (rowsI (ss.take k) t).map WriteT.cells⟩)]) (fun k => ss.length - k) 0 ⟨by first | (simp_all <;> fail) | rfl | fail, by first | rfl | (simp_all <;> fail) | fail, trivial⟩ ⟨by first | rfl | first | rfl | exact congrArg (fun e : List WriteT => some (AObj.mk _ _ _ (e.map WriteT.cells))) (rowsI_next hx (by assumption)) | fail | fail, trivial⟩ (by (try dsimp only); first | (exact Nat.zero_le _) | fail) ?_; (conv => whnf); refine side_and (side_of (by first | exact fun k => rfl | exact fun k => by simp [headOk, closedE, closedO, closedL, AV.closed, hcap.closed, hasId, AObj.box, BK.ofB])) ?_; rintro k hT; try dsimp only at hT)
 | (refine Loop_at [1, 12, 13, 14, 21, 22] [] (Nat) (fun j => j ≤ (rowsAt t x.Cells).length) (fun j => [(23, .int .i64 (j : Nat)), (6, .own 4096)]) (fun j => [(4096, ⟨false, 53, 3, (((rowsAt t x.Cells).take j).foldl putW (rowsI (ss.take k) t)).map WriteT.cells⟩), (20528, ⟨false, 53, 3, (rowsAt t x.Cells).map WriteT.cells⟩)]) (fun j => (rowsAt t x.Cells).length - j) 0 ⟨by first | exact congrArg (AV.int .i64) (by rw [i64_wrap (by omega) (by omega)]; omega) | rfl | fail, by first | rfl | exact congrArg (AV.int .i64) (by rw [i64_wrap (by omega) (by omega)]; omega) | fail, trivial⟩ ⟨by first | rfl | first | rfl | exact congrArg (fun e : List WriteT => some (AObj.mk _ _ _ (e.map WriteT.cells))) (fold_next (g := putW) hy).symm | fail | fail, by first | rfl | first | rfl | exact congrArg (fun e : List WriteT => some (AObj.mk _ _ _ (e.map WriteT.cells))) (fold_next (g := putW) hy).symm | fail | fail, trivial⟩ (by (try dsimp only); first | (exact Nat.zero_le _) | fail) ?_; (conv => whnf); refine side_and (side_of (by first | exact fun j => rfl | exact fun j => by simp [headOk, closedE, closedO, closedL, AV.closed, hcap.closed, hasId, AObj.box, BK.ofB])) ?_; rintro j hJ; try dsimp only at hJ)
 | refine Again_of (k + 1) ⟨by first | rfl | exact i64_next (by omega) | (simp_all <;> fail) | fail, by first | rfl | (simp_all <;> fail) | fail, trivial⟩ ⟨by first | rfl | first | rfl | exact congrArg (fun e : List WriteT => some (AObj.mk _ _ _ (e.map WriteT.cells))) (rowsI_next hx (by assumption)) | fail | fail, trivial⟩ (by first | (and_intros <;> first | rfl | trivial) | fail) (by first | (and_intros <;> first | rfl | trivial) | fail) rfl rfl rfl (by (try dsimp only); first | ((show k + 1 ≤ _; omega)) | fail) (show _ < _ by (try dsimp only); omega)
 | refine Again_ren 32800 4096 (by decide) rfl ?_; (conv => whnf); refine Again_of (j + 1) ⟨by first | rfl | exact i64_next (by omega) | exact congrArg (AV.int .i64) (by rw [i64_wrap (by omega) (by omega)]; omega) | fail, by first | rfl | exact congrArg (AV.int .i64) (by rw [i64_wrap (by omega) (by omega)]; omega) | fail, trivial⟩ ⟨by first | rfl | first | rfl | exact congrArg (fun e : List WriteT => some (AObj.mk _ _ _ (e.map WriteT.cells))) (fold_next (g := putW) hy).symm | fail | fail, by first | rfl | first | rfl | exact congrArg (fun e : List WriteT => some (AObj.mk _ _ _ (e.map WriteT.cells))) (fold_next (g := putW) hy).symm | fail | fail, trivial⟩ (by first | (and_intros <;> first | rfl | trivial) | fail) (by first | (and_intros <;> first | rfl | trivial) | fail) rfl rfl rfl (by (try dsimp only); first | ((show j + 1 ≤ _; omega)) | fail) (show _ < _ by (try dsimp only); omega)
 | refine CallF (c_impl_cellsAt x.Cells t (st_rows (hsw x (List.mem_of_getElem? hx))).1 (st_rows (hsw x (List.mem_of_getElem? hx))).2) rfl rfl rfl (Nat.le_of_ble_eq_true rfl) ?_
 | refine CallX (c_impl_putWrite (((rowsAt t x.Cells).take j).foldl putW (rowsI (ss.take k) t)) y (Nat.le_trans (accI_len hx (by omega)) hw)) [4096] rfl ⟨rfl, trivial⟩ rfl rfl rfl ?_
 | (have hke : ss.take k = ss := List.take_of_length_le (by omega); rw [hke, rows_eq]; refine Call0 (c_impl_GoodWrites (rowsS ss t) hokR.1 hokR.2) rfl rfl ?_)
 | refine side_and (side_of (by first | (and_intros <;> first | exact Nat.le_of_ble_eq_true rfl | rfl | omega | (simp only [lensB, lensC]; omega) | exact bytes_ok (Nat.le_of_ble_eq_true rfl) (by omega) (by simp only [lensB, lensC]; omega) | exact bytes_okN (Nat.le_of_ble_eq_true rfl) (by simp only [lensB, lensC]; omega)) | fail)) ?_
 | refine LoadK_of rfl rfl ?_
 | fail
  all_goals
    conv => whnf
    first
    | (rw [(by assumption : okWrites (rowsS ss t) = true)]; exact OutA_ids rfl rfl rfl ⟨⟨_, _, _, rfl, rfl⟩, trivial⟩ rfl (.inr (flat_one (flat_map (fun _ => rfl) _))))
    | (rw [(by assumption : okWrites (rowsS ss t) = false)]; exact OutA_nil 4 1 53 3 rfl rfl (by decide) (OutA_ids rfl rfl rfl ⟨⟨_, _, _, rfl, rfl⟩, trivial⟩ rfl (.inr (flat_one (flat_map (fun _ => rfl) _)))))
def okDR (d : DealT) (t : Int) : Bool := (okDeal d && inB 0 t 100000) && okWrites (rowsS d.States t)
theorem okDR_yes {d : DealT} {t : Int} (h1 : okDeal d = true) (h2 : inB 0 t 100000 = true) : okDR d t = okWrites (rowsS d.States t) := by unfold okDR; rw [h1, h2]; rfl
theorem okDR_no {d : DealT} {t : Int} (h : okDeal d = false ∨ inB 0 t 100000 = false) : okDR d t = false := by
  unfold okDR
  rcases h with h | h <;> rw [h] <;> simp
theorem deal_sts {d : DealT} (hok : d.ok) (hw : d.w ≤ 1048576) : (∀ s ∈ d.States, s.ok) ∧ wL StateT.w d.States ≤ 1048576 := by
  have h : d.w = wL List.length d.Cuts + wL StateT.w d.States + wL OrderT.w d.Orders := rfl
  exact ⟨hok.2.1.2, by omega⟩
theorem c_impl_DealRows (d : DealT) (t : Int) (hok : d.ok) (hw : d.w ≤ 1048576) : PC Tryz.prog false 7 [.agg d.cells, .int .i64 t] (.tup [.own 0, .bool (okDR d t)]) [⟨false, 53, 3, (resWr (okDR d t) (rowsS d.States t)).map WriteT.cells⟩] := by
  refine pc_at Tryz.func7 rfl (by kernel_rfl) 20 [.tmp 4, .tmp 5] rfl rfl ?_
  repeat' (conv => whnf); first
 | (refine nameB_cases (b := okDeal d) (fun h => ?_) (fun h => ?_))
 | (refine nameB_cases (b := inB 0 t 100000) (fun h => ?_) (fun h => ?_))
 | (refine nameB_self (b := okWrites (rowsS d.States t)) ?_)
 | refine nameB_true ?_
 | refine nameB_false ?_
 | refine splitB_true ?_
 | refine splitB_false ?_
 | refine Call0 (c_impl_GoodDeal d hok hw) rfl rfl ?_
 | refine Call0 (c_impl_isTrue6 t) rfl rfl ?_
 | refine CallF (c_impl_rowsOf d.States t (deal_sts hok hw).1 (deal_sts hok hw).2) rfl rfl rfl (Nat.le_of_ble_eq_true rfl) ?_
 | refine side_and (side_of (by first | (and_intros <;> first | exact Nat.le_of_ble_eq_true rfl | rfl | omega | (simp only [lensB, lensC]; omega) | exact bytes_ok (Nat.le_of_ble_eq_true rfl) (by omega) (by simp only [lensB, lensC]; omega) | exact bytes_okN (Nat.le_of_ble_eq_true rfl) (by simp only [lensB, lensC]; omega)) | fail)) ?_
 | fail
  all_goals
    conv => whnf
    first
    | (rw [okDR_yes (by assumption) (by assumption)]; exact OutA_ids rfl rfl rfl ⟨⟨_, _, _, rfl, rfl⟩, trivial⟩ rfl (.inr (flat_one (flat_map (fun _ => rfl) _))))
    | (rw [okDR_no (by first | exact .inl (by assumption) | exact .inr (by assumption))]; exact OutA_nil 4 1 53 3 rfl rfl (by decide) (OutA_ids rfl rfl rfl ⟨⟨_, _, _, rfl, rfl⟩, trivial⟩ rfl (.inr (flat_one (flat_map (fun _ => rfl) _)))))
end Go.Proofs.YthbheejeloomjaaGreat
