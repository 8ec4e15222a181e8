/-
  The values of all states at a time: the law of DealRows.
  No condition.
-/
import Derived.Test.YthbheejeloomjaaGreatRows1
import Derived.Test.YthbheejeloomjaaGreatPutS
namespace Go.Proofs.YthbheejeloomjaaGreat
open Go.Ab
set_option linter.unusedSimpArgs false
set_option maxRecDepth 20000
set_option maxHeartbeats 4000000
set_option linter.unusedVariables false

theorem c_spec_DealRows (d : DealT) (t : Int) (hok : d.ok) (hw : d.w ≤ 1048576) : PC Tryz.prog true 5 [.agg d.cells, .int .i64 t] (.tup [.sl ((resWr (okDR d t) (rowsS d.States t)).map WriteT.cells), .bool (okDR d t)]) [] := by
  have hst := deal_sts hok hw
  have hl := wL_len (w := StateT.w) (xs := d.States)
  have hsw : ∀ s ∈ d.States, s.w ≤ 1048576 := fun s hs => Nat.le_trans (wL_mem (w := StateT.w) hs).2 hst.2
  have hokR := okRows (t := t) hst.1 hst.2
  refine pc_at Tryz.func5 rfl (by kernel_rfl) 44 [.tmp 4, .tmp 5] rfl rfl ?_
  repeat' (conv => whnf); first
 | (refine ix_as (f := StateT.cells) (m := k) rfl (by omega) (fun x hx => ?_); have hcl := rowsAt_len t x.Cells; have hsr := st_rows (hsw x (List.mem_of_getElem? hx)))
 | (show ∃ e, _ ∧ Go.Ab.LoadK _ _ _ _; refine ix_ownX (f := WriteT.cells) (by (try simp only [Int.toNat_natCast]); omega) (fun y hy => ?_); try simp only [Int.toNat_natCast] at hy)
 | (refine nameB_cases (b := okDeal d) (fun h => ?_) (fun h => ?_))
 | (refine nameB_cases (b := inB 0 t 100000) (fun h => ?_) (fun h => ?_))
 | (refine nameB_cases (b := okWrites (rowsS d.States t)) (fun h => ?_) (fun h => ?_))
 | refine nameB_true ?_
 | refine nameB_false ?_
 | (refine nameB_dec (fun h => ?_) (fun h => ?_) <;> try simp only [lensB] at h)
 | refine splitB_true ?_
 | refine splitB_false ?_
 | (refine Loop_nilS 6 rfl ?_; refine Loop_at [1, 20, 21] [] (Nat) (fun k => k ≤ d.States.length) (fun k => [(22, .int .i64 (k : Nat)), (6, .sl ((rowsS (d.States.take k) t).map WriteT.cells))]) (fun k => []) (fun k => d.States.length - k) 0 ⟨by first | first | rfl | exact congrArg (fun e : List WriteT => AV.sl (e.map WriteT.cells)) (rowsS_next hx (by assumption)) | rfl | fail, by first | rfl | first | rfl | exact congrArg (fun e : List WriteT => AV.sl (e.map WriteT.cells)) (rowsS_next hx (by assumption)) | fail, trivial⟩ trivial (by (try dsimp only); first | (exact Nat.zero_le _) | fail) ?_; (conv => whnf); refine side_and (side_of (by first | exact fun k => rfl | exact fun k => by simp [headOk, closedE, closedO, closedL, AV.closed, hcap.closed, hasId, AObj.box, BK.ofB])) ?_; rintro k hT; try dsimp only at hT)
 | (refine Loop_at [1, 20, 21, 22, 29, 30] [] (Nat) (fun j => j ≤ (rowsAt t x.Cells).length) (fun j => [(31, .int .i64 (j : Nat)), (6, .sl ((((rowsAt t x.Cells).take j).foldl putWS (rowsS (d.States.take k) t)).map WriteT.cells))]) (fun j => [(28720, ⟨false, 53, 3, (rowsAt t x.Cells).map WriteT.cells⟩)]) (fun j => (rowsAt t x.Cells).length - j) 0 ⟨by first | first | rfl | exact congrArg (AV.int .i64) (by rw [i64_wrap (by omega) (by omega)]; omega) | exact congrArg (fun e : List WriteT => AV.sl (e.map WriteT.cells)) (fold_next (g := putWS) hy).symm | rfl | fail, by first | rfl | first | rfl | exact congrArg (AV.int .i64) (by rw [i64_wrap (by omega) (by omega)]; omega) | exact congrArg (fun e : List WriteT => AV.sl (e.map WriteT.cells)) (fold_next (g := putWS) hy).symm | fail, trivial⟩ ⟨by first | rfl | exact congrArg (fun e => some (AObj.mk _ _ _ e)) (set_rep hx) | exact congrArg (fun e => some (AObj.mk _ _ _ e)) start_rep | fail | fail, trivial⟩ (by (try dsimp only); first | (exact Nat.zero_le _) | fail) ?_; (conv => whnf); refine side_and (side_of (by first | exact fun j => rfl | exact fun j => by simp [headOk, closedE, closedO, closedL, AV.closed, hcap.closed, hasId, AObj.box, BK.ofB])) ?_; rintro j hJ; try dsimp only at hJ)
 | refine Again_of (k + 1) ⟨by first | rfl | exact i64_next (by omega) | first | rfl | exact congrArg (fun e : List WriteT => AV.sl (e.map WriteT.cells)) (rowsS_next hx (by assumption)) | fail, by first | rfl | first | rfl | exact congrArg (fun e : List WriteT => AV.sl (e.map WriteT.cells)) (rowsS_next hx (by assumption)) | fail, trivial⟩ trivial (by first | (and_intros <;> first | rfl | trivial) | fail) (by first | (and_intros <;> first | rfl | trivial) | fail) rfl rfl rfl (by (try dsimp only); first | ((show k + 1 ≤ _; omega)) | fail) (show _ < _ by (try dsimp only); omega)
 | refine Again_of (j + 1) ⟨by first | rfl | exact i64_next (by omega) | first | rfl | exact congrArg (AV.int .i64) (by rw [i64_wrap (by omega) (by omega)]; omega) | exact congrArg (fun e : List WriteT => AV.sl (e.map WriteT.cells)) (fold_next (g := putWS) hy).symm | fail, by first | rfl | first | rfl | exact congrArg (AV.int .i64) (by rw [i64_wrap (by omega) (by omega)]; omega) | exact congrArg (fun e : List WriteT => AV.sl (e.map WriteT.cells)) (fold_next (g := putWS) hy).symm | fail, trivial⟩ ⟨by first | rfl | exact congrArg (fun e => some (AObj.mk _ _ _ e)) (set_rep hx) | exact congrArg (fun e => some (AObj.mk _ _ _ e)) start_rep | fail | fail, trivial⟩ (by first | (and_intros <;> first | rfl | trivial) | fail) (by first | (and_intros <;> first | rfl | trivial) | fail) rfl rfl rfl (by (try dsimp only); first | ((show j + 1 ≤ _; omega)) | fail) (show _ < _ by (try dsimp only); omega)
 | refine Call0 (c_spec_l15Good d hok hw) rfl rfl ?_
 | refine Call0 (c_spec_l2True6 t) rfl rfl ?_
 | refine CallF (c_spec_l3All x.Cells t (st_rows (hsw x (List.mem_of_getElem? hx))).1 (st_rows (hsw x (List.mem_of_getElem? hx))).2) rfl rfl rfl (Nat.le_of_ble_eq_true rfl) ?_
 | refine CallT (c_spec_l5PutW (((rowsAt t x.Cells).take j).foldl putWS (rowsS (d.States.take k) t)) y (Nat.le_trans (accS_len hx (by omega)) hst.2)) rfl rfl rfl rfl (Nat.le_of_ble_eq_true rfl) ?_
 | (have hke : d.States.take k = d.States := List.take_of_length_le (by omega); rw [hke]; refine Call0 (c_spec_l3Writes (rowsS d.States t) hokR.1) rfl rfl ?_)
 | refine side_and (side_of (by first | (and_intros <;> first | exact Nat.le_of_ble_eq_true rfl | rfl | omega | (simp only [lensB, lensC]; omega) | exact bytes_ok (Nat.le_of_ble_eq_true rfl) (by omega) (by simp only [lensB, lensC]; omega) | exact bytes_okN (Nat.le_of_ble_eq_true rfl) (by simp only [lensB, lensC]; omega)) | fail)) ?_
 | refine LoadK_of rfl rfl ?_
 | fail
  all_goals
    conv => whnf
    first
    | (have e := okDR_yes (d := d) (t := t) (by assumption) (by assumption); rw [(by assumption : okWrites (rowsS d.States t) = true)] at e; rw [e]; exact OutA_plain rfl rfl rfl)
    | (have e := okDR_yes (d := d) (t := t) (by assumption) (by assumption); rw [(by assumption : okWrites (rowsS d.States t) = false)] at e; rw [e]; exact OutA_nilS 4 rfl (OutA_plain rfl rfl rfl))
    | (rw [okDR_no (by first | exact .inl (by assumption) | exact .inr (by assumption))]; exact OutA_nilS 4 rfl (OutA_plain rfl rfl rfl))
theorem law_DealRows (a : DealT) (t : Int) (W : List WriteT) (b : Bool) (hok : a.ok) (hW : okL WriteT.ok W) (hww : cntL WriteT.cnt W ≤ 1048576000)
    (hS : a.w ≤ 1048576 → PC Tryz.prog true 5 [.agg a.cells, .int .i64 t] (.tup [.sl (W.map WriteT.cells), .bool b]) [])
    (hI : a.w ≤ 1048576 → PC Tryz.prog false 7 [.agg a.cells, .int .i64 t] (.tup [.own 0, .bool b]) [⟨false, 53, 3, W.map WriteT.cells⟩]) :
    PC Tryz.prog false 3 [.agg a.cells, .int .i64 t] (.bool true) [] := by
  have hm1 := DealT.cntS_w a 1
  have hm2 := cntL_len_Write W
  refine pc_at Tryz.func3 rfl (by kernel_rfl) 101 [.tmp 4] rfl rfl ?_
  repeat' (conv => whnf); first
 | refine nameB_self (b := b) ?_
 | refine nameB_no (b := !(b == b)) (by simp) ?_
 | refine nameB_dno (by omega) ?_
 | refine nameB_true ?_
 | refine nameB_false ?_
 | (refine nameB_cases (fun h => ?_) (fun h => ?_) <;> try simp only [nmL, lensB] at h)
 | refine splitB_true ?_
 | refine splitB_false ?_
 | refine draw_text (by kernel_rfl) (by kernel_rfl) (by kernel_rfl) ?_
 | (by_cases hn : (1048576 : Int) - ((DealT.w a : Nat) : Int) < 0 <;> first | refine Call0 (pc_szneg (c_laws_szDeal a (1048576 : Int) (by omega) (by omega) hok) hn) rfl rfl ?_ | refine Call0 (pc_szpos (c_laws_szDeal a (1048576 : Int) (by omega) (by omega) hok) hn) rfl rfl ?_)
 | refine CallT (hS (by omega)) rfl rfl rfl rfl (Nat.le_of_ble_eq_true rfl) ?_
 | refine CallT (nid := 20496) (c_laws_toDeal_ro a (by omega)) rfl rfl rfl rfl (Nat.le_of_ble_eq_true rfl) ?_
 | refine CallF (hI (by omega)) rfl rfl rfl (Nat.le_of_ble_eq_true rfl) ?_
 | refine CallF (c_laws_toDeal a (by omega)) rfl rfl rfl (Nat.le_of_ble_eq_true rfl) ?_
 | refine Call0 (pc_true (c_laws_eqWriteS W W hW) rfl) rfl rfl ?_
 | refine CallMs (m_laws_markDeal a 1 (by omega) (by omega)) [] trivial rfl rfl ?_
 | refine CallM1 (m_laws_markWriteS W 1 (by omega) (by omega) (by omega)) [(28704, WriteT.shp)] ⟨⟨_, _, _, rfl, by first | exact prom_map (fun _ => rfl) | exact prom_nil⟩, trivial⟩ rfl rfl ?_
 | refine Call0 (c_laws_heldWriteS W 1 (by omega) (by omega) (by omega)) rfl rfl ?_
 | refine CallDF (c_laws_toDeal a (by omega)) rfl rfl ⟨rfl, rfl⟩ ?_
 | refine CallD0 (pc_true (c_laws_eqDeal a a hok) rfl) rfl rfl rfl ?_
 | refine side_and (side_of (by first | (and_intros <;> first | exact Nat.le_of_ble_eq_true rfl | rfl | omega | (simp only [lensB, lensC]; omega) | exact bytes_ok (Nat.le_of_ble_eq_true rfl) (by omega) (by simp only [lensB, lensC]; omega) | exact bytes_okN (Nat.le_of_ble_eq_true rfl) (by simp only [lensB, lensC]; omega)) | fail)) ?_
 | fail
  all_goals
    conv => whnf
    refine OutA_plain rfl rfl ?_
    first | rfl | (exfalso; omega) | (exfalso; simp at * <;> omega)
theorem resWr_ok {b : Bool} {l : List WriteT} (h : okL WriteT.ok l) : okL WriteT.ok (resWr b l) := by
  cases b with
  | false => exact ⟨Nat.zero_le _, fun _ h => by cases h⟩
  | true => exact h
theorem resWr_cnt {b : Bool} {l : List WriteT} (hl : l.length ≤ 1048576) : cntL WriteT.cnt (resWr b l) ≤ 1048576000 := by
  have h : (resWr b l).length ≤ 1048576 := by
    cases b with
    | false => exact Nat.zero_le _
    | true => exact hl
  have := cntL_l100 (cnt := WriteT.cnt) (fun y => by show 1 + 1 + 1 ≤ 100; omega) (resWr b l)
  omega
theorem c_laws_FnExactDealRows (a : DealT) (t : Int) (hok : a.ok) : PC Tryz.prog false 3 [.agg a.cells, .int .i64 t] (.bool true) [] := by
  by_cases hw : a.w ≤ 1048576
  · have hst := deal_sts hok hw
    have hokR := okRows (t := t) hst.1 hst.2
    exact law_DealRows a t _ _ hok (resWr_ok hokR.1) (resWr_cnt hokR.2) (c_spec_DealRows a t hok) (c_impl_DealRows a t hok)
  · exact law_DealRows a t [] false hok ⟨Nat.zero_le _, fun _ h => by cases h⟩ (by decide) (fun h => absurd h hw) (fun h => absurd h hw)
end Go.Proofs.YthbheejeloomjaaGreat
