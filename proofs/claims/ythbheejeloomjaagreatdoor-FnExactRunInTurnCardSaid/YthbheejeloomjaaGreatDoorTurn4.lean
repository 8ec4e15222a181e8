/-
  Programs run in turn: what the reference's function gives.
  No condition.
-/
import Derived.Test.YthbheejeloomjaaGreatDoorTurn3
namespace Go.Proofs.YthbheejeloomjaaGreatDoor
open Go.Ab
set_option linter.unusedSimpArgs false
set_option maxRecDepth 20000
set_option maxHeartbeats 4000000
set_option linter.unusedVariables false

theorem putR_ok {rows ws : List WriteT} (h : WOk rows) (hw : WOk ws) : WOk (putR rows ws) := by
  rw [← putRS_eq h]
  refine ⟨List.Pairwise.filter _ (putW_fold ws rows h.1).2, fun w hm => ?_⟩
  rcases putWS_fold_mem ws rows (List.mem_filter.1 hm).1 with hm | hm
  · exact h.2 w hm
  · exact hw.2 w hm
theorem putR_len (rows ws : List WriteT) : (putR rows ws).length ≤ rows.length + ws.length := Nat.le_trans (List.length_filter_le _ _) (putW_fold_len ws rows)
theorem c_spec_l5PutRowsR (rows ws : List WriteT) (h : WOk rows) (hr : rows.length ≤ 1000) (hw : ws.length ≤ 1000) : PC Tryz.prog false 53 [.sl (rows.map WriteT.cells), .sl (ws.map WriteT.cells)] (.own 0) [⟨false, 74, 3, (putR rows ws).map WriteT.cells⟩] := by
  rw [← putRS_eq h]
  exact c_spec_l5PutRows rows ws hr hw
theorem c_spec_l5RowsT (now : List WriteT) (l : List OpT) (h : okRw now = true) (ho : okOps l = true) : PC Tryz.prog false 48 [.sl ((putR now (runA now l).2.2).map WriteT.cells)] (.bool (decide ((putR now (runA now l).2.2).length ≤ 24))) [] := by
  have h1 := rw_ok h
  have h2 := runA_w h ho
  have h3 := putR_len now (runA now l).2.2
  rw [← okRw_turn h ho]
  exact c_spec_l5Rows _ (wok_ok (putR_ok h1.1 h2.1) (by omega))
section
variable {rows : List WriteT} {ls : List (List OpT)} {k : Nat} {x : List OpT}
theorem all_go (h : (ls.take k).all okOps = true) (hx : ls[k]? = some x) (ho : okOps x = true) : (ls.take (k + 1)).all okOps = true := by
  rw [take_get hx, List.all_append, h]
  simp [ho]
theorem all_hit (hx : ls[k]? = some x) (ho : okOps x = false) : ls.all okOps = false := by
  rw [List.all_eq_false]
  exact ⟨x, List.mem_of_getElem? hx, by simp [ho]⟩
theorem all_end (h : (ls.take k).all okOps = true) (hk : ls.length ≤ k) : ls.all okOps = true := by rwa [List.take_of_length_le hk] at h
theorem now_yesS (hx : ls[k]? = some x) (h1 : decide ((runA (turnF rows (ls.take k)).1 x).2.1 = 3) = true) (h2 : (putR (turnF rows (ls.take k)).1 (runA (turnF rows (ls.take k)).1 x).2.2).length ≤ 24) : putR (turnF rows (ls.take k)).1 (runA (turnF rows (ls.take k)).1 x).2.2 = (turnF rows (ls.take (k + 1))).1 := by
  rw [turn_now hx, nT_yes (dD_yes h1 h2)]
end
theorem c_spec_RunInTurn (rows : List WriteT) (ls : List (List OpT)) (hr : okL WriteT.ok rows) (hrl : rows.length ≤ 1048576) (hok : okL (okL OpT.ok) ls) : PC Tryz.prog false 25 [.sl (rows.map WriteT.cells), .sl (ls.map (sC OpT.cells))] (.tup [.own 0, .own 1, .bool (turnB rows ls)]) [⟨false, 74, 3, (turnR rows ls).1.map WriteT.cells⟩, ⟨false, 4, 1, (turnR rows ls).2.map boolC⟩] := by
  refine pc_at Tryz.func25 rfl (by kernel_rfl) 68 [.tmp 4, .tmp 5, .tmp 6] rfl rfl ?_
  repeat' (conv => whnf); first
 | (refine ix_as (f := sC OpT.cells) (m := k) rfl (by omega) (fun x hx => ?_); have hxo : okOps x = true := List.all_eq_true.1 (all_end hI.1 (by omega)) x (List.mem_of_getElem? hx))
 | refine ix_as (f := sC OpT.cells) (m := i) rfl (by omega) (fun y hy => ?_)
 | refine side_and (side_of (by first | (and_intros <;> first | exact Nat.le_of_ble_eq_true rfl | rfl | (intro e; exact absurd (AV.own.inj e) (by decide)) | (intro e; exact AV.noConfusion e)) | fail)) ?_
 | (refine splitB_intro (b := decide ((runA (turnF rows (ls.take k)).1 x).2.1 = 3)) (fun h => ?_) (fun h => ?_) <;> rw [h])
 | (refine nameB_cases (b := okRw rows) (fun h => ?_) (fun h => ?_))
 | (refine nameB_cases (b := okOps y) (fun h => ?_) (fun h => ?_))
 | refine side_and (side_of (one_lenC rfl rfl)) ?_
 | refine side_and (side_of (app_boundC (L := (turnF rows (ls.take k)).2.map boolC) rfl (by (have hq := turnF_len rows (ls.take k); rw [List.length_take] at hq; simp only [List.length_map]; omega)) (Nat.le_of_ble_eq_true rfl))) ?_
 | refine nameB_true ?_
 | refine nameB_false ?_
 | (refine nameB_dec (fun h => ?_) (fun h => ?_) <;> try simp only [lensB] at h)
 | refine splitB_true ?_
 | refine splitB_false ?_
 | (refine Loop_at [0, 1, 25, 26] [] (Nat) (fun i => (ls.take i).all okOps = true ∧ i ≤ ls.length) (fun i => [(27, .int .i64 (i : Nat))]) (fun i => []) (fun i => ls.length - i) 0 ⟨by first | exact congrArg (AV.int .i64) (by rw [i64_wrap (by omega) (by omega)]; omega) | rfl | fail, trivial⟩ trivial (by (try dsimp only); first | (exact ⟨rfl, Nat.zero_le _⟩) | fail) ?_; (conv => whnf); refine side_and (side_of (by first | exact fun i => rfl | exact fun i => by simp [headOk, closedE, closedO, closedL, AV.closed, hcap.closed, hasId, AObj.box, BK.ofB])) ?_; rintro i hI; try dsimp only at hI)
 | (refine Loop_nil 10 4097 4 1 rfl rfl (by decide) ?_; refine Loop_at [38, 39] [] (Nat) (fun k => okRw (turnF rows (ls.take k)).1 = true ∧ k ≤ ls.length) (fun k => [(40, .int .i64 (k : Nat)), (9, .own 36896), (10, .own 4097)]) (fun k => [(36896, ⟨false, 74, 3, (turnF rows (ls.take k)).1.map WriteT.cells⟩), (4097, ⟨false, 4, 1, (turnF rows (ls.take k)).2.map boolC⟩)]) (fun k => ls.length - k) 0 ⟨by first | exact congrArg (AV.int .i64) (by rw [i64_wrap (by omega) (by omega)]; omega) | rfl | fail, by first | rfl | exact congrArg (AV.int .i64) (by rw [i64_wrap (by omega) (by omega)]; omega) | fail, by first | rfl | exact congrArg (AV.int .i64) (by rw [i64_wrap (by omega) (by omega)]; omega) | fail, trivial⟩ ⟨by first | rfl | first | rfl | exact congrArg (fun e : List WriteT => some (AObj.mk _ _ _ (e.map WriteT.cells))) (now_yesS hx (by assumption) (by assumption)) | exact congrArg (fun e : List WriteT => some (AObj.mk _ _ _ (e.map WriteT.cells))) (now_no hx (by first | exact dD_no1 (by assumption) | exact dT_no (.inr (by assumption)))) | exact congrArg (fun e => some (AObj.mk _ _ _ e)) (turn_done hx (by first | exact dD_yes (by assumption) (by assumption) | exact dD_no1 (by assumption) | exact dT_no (.inr (by assumption))) rfl) | fail | fail, by first | rfl | first | rfl | exact congrArg (fun e : List WriteT => some (AObj.mk _ _ _ (e.map WriteT.cells))) (now_yesS hx (by assumption) (by assumption)) | exact congrArg (fun e : List WriteT => some (AObj.mk _ _ _ (e.map WriteT.cells))) (now_no hx (by first | exact dD_no1 (by assumption) | exact dT_no (.inr (by assumption)))) | exact congrArg (fun e => some (AObj.mk _ _ _ e)) (turn_done hx (by first | exact dD_yes (by assumption) (by assumption) | exact dD_no1 (by assumption) | exact dT_no (.inr (by assumption))) rfl) | fail | fail, trivial⟩ (by (try dsimp only); first | (exact ⟨by assumption, Nat.zero_le _⟩) | fail) ?_; (conv => whnf); refine side_and (side_of (by first | exact fun k => rfl | exact fun k => by simp [headOk, closedE, closedO, closedL, AV.closed, hcap.closed, hasId, AObj.box, BK.ofB])) ?_; rintro k hT; try dsimp only at hT)
 | refine Again_of (i + 1) ⟨by first | rfl | exact i64_next (by omega) | exact congrArg (AV.int .i64) (by rw [i64_wrap (by omega) (by omega)]; omega) | fail, trivial⟩ trivial (by first | (and_intros <;> first | rfl | trivial) | fail) (by first | (and_intros <;> first | rfl | trivial) | fail) rfl rfl rfl (by (try dsimp only); first | (exact ⟨all_go hI.1 hy (by assumption), by omega⟩) | fail) (show _ < _ by (try dsimp only); omega)
 | refine Again_ren 61472 36896 (by decide) rfl ?_; (conv => whnf); refine Again_of (k + 1) ⟨by first | rfl | exact i64_next (by omega) | exact congrArg (AV.int .i64) (by rw [i64_wrap (by omega) (by omega)]; omega) | fail, by first | rfl | exact congrArg (AV.int .i64) (by rw [i64_wrap (by omega) (by omega)]; omega) | fail, by first | rfl | exact congrArg (AV.int .i64) (by rw [i64_wrap (by omega) (by omega)]; omega) | fail, trivial⟩ ⟨by first | rfl | first | rfl | exact congrArg (fun e : List WriteT => some (AObj.mk _ _ _ (e.map WriteT.cells))) (now_yesS hx (by assumption) (by assumption)) | exact congrArg (fun e : List WriteT => some (AObj.mk _ _ _ (e.map WriteT.cells))) (now_no hx (by first | exact dD_no1 (by assumption) | exact dT_no (.inr (by assumption)))) | exact congrArg (fun e => some (AObj.mk _ _ _ e)) (turn_done hx (by first | exact dD_yes (by assumption) (by assumption) | exact dD_no1 (by assumption) | exact dT_no (.inr (by assumption))) rfl) | fail | fail, by first | rfl | first | rfl | exact congrArg (fun e : List WriteT => some (AObj.mk _ _ _ (e.map WriteT.cells))) (now_yesS hx (by assumption) (by assumption)) | exact congrArg (fun e : List WriteT => some (AObj.mk _ _ _ (e.map WriteT.cells))) (now_no hx (by first | exact dD_no1 (by assumption) | exact dT_no (.inr (by assumption)))) | exact congrArg (fun e => some (AObj.mk _ _ _ e)) (turn_done hx (by first | exact dD_yes (by assumption) (by assumption) | exact dD_no1 (by assumption) | exact dT_no (.inr (by assumption))) rfl) | fail | fail, trivial⟩ (by first | (and_intros <;> first | rfl | trivial) | fail) (by first | (and_intros <;> first | rfl | trivial) | fail) rfl rfl rfl (by (try dsimp only); first | (exact ⟨by rw [turn_now hx]; exact nT_ok hT.1 hxo, by omega⟩) | fail) (show _ < _ by (try dsimp only); omega)
 | refine Again_of (k + 1) ⟨by first | rfl | exact i64_next (by omega) | exact congrArg (AV.int .i64) (by rw [i64_wrap (by omega) (by omega)]; omega) | fail, by first | rfl | exact congrArg (AV.int .i64) (by rw [i64_wrap (by omega) (by omega)]; omega) | fail, by first | rfl | exact congrArg (AV.int .i64) (by rw [i64_wrap (by omega) (by omega)]; omega) | fail, trivial⟩ ⟨by first | rfl | first | rfl | exact congrArg (fun e : List WriteT => some (AObj.mk _ _ _ (e.map WriteT.cells))) (now_yesS hx (by assumption) (by assumption)) | exact congrArg (fun e : List WriteT => some (AObj.mk _ _ _ (e.map WriteT.cells))) (now_no hx (by first | exact dD_no1 (by assumption) | exact dT_no (.inr (by assumption)))) | exact congrArg (fun e => some (AObj.mk _ _ _ e)) (turn_done hx (by first | exact dD_yes (by assumption) (by assumption) | exact dD_no1 (by assumption) | exact dT_no (.inr (by assumption))) rfl) | fail | fail, by first | rfl | first | rfl | exact congrArg (fun e : List WriteT => some (AObj.mk _ _ _ (e.map WriteT.cells))) (now_yesS hx (by assumption) (by assumption)) | exact congrArg (fun e : List WriteT => some (AObj.mk _ _ _ (e.map WriteT.cells))) (now_no hx (by first | exact dD_no1 (by assumption) | exact dT_no (.inr (by assumption)))) | exact congrArg (fun e => some (AObj.mk _ _ _ e)) (turn_done hx (by first | exact dD_yes (by assumption) (by assumption) | exact dD_no1 (by assumption) | exact dT_no (.inr (by assumption))) rfl) | fail | fail, trivial⟩ (by first | (and_intros <;> first | rfl | trivial) | fail) (by first | (and_intros <;> first | rfl | trivial) | fail) rfl rfl rfl (by (try dsimp only); first | (exact ⟨by rw [turn_now hx]; exact nT_ok hT.1 hxo, by omega⟩) | fail) (show _ < _ by (try dsimp only); omega)
 | refine Call0 (c_spec_l5Rows rows hr) rfl rfl ?_
 | refine Call0 (c_spec_l5Good y (hok.2 y (List.mem_of_getElem? hy))) rfl rfl ?_
 | refine CallF (c_spec_l5Alone (turnF rows (ls.take k)).1 x (rw_ok hT.1).1.2 (Nat.le_trans (rw_ok hT.1).2 (by decide)) hxo) rfl rfl rfl (Nat.le_of_ble_eq_true rfl) ?_
 | refine CallF (c_spec_l5PutRowsR (turnF rows (ls.take k)).1 (runA (turnF rows (ls.take k)).1 x).2.2 (rw_ok hT.1).1 (Nat.le_trans (rw_ok hT.1).2 (by decide)) (Nat.le_trans (runA_w hT.1 hxo).2 (by decide))) rfl rfl rfl (Nat.le_of_ble_eq_true rfl) ?_
 | refine Call0 (c_spec_l5RowsT (turnF rows (ls.take k)).1 x hT.1 hxo) rfl rfl ?_
 | refine side_and (side_of (by first | (and_intros <;> first | exact Nat.le_of_ble_eq_true rfl | rfl | omega | (simp only [lensB, lensC]; omega) | exact bytes_ok (Nat.le_of_ble_eq_true rfl) (by omega) (by simp only [lensB, lensC]; omega) | exact bytes_okN (Nat.le_of_ble_eq_true rfl) (by simp only [lensB, lensC]; omega)) | fail)) ?_
 | refine side_and (side_of (map_len (fun _ => rfl))) ?_
 | refine side_and (side_of (map_one (fun _ => rfl) _)) ?_
 | fail
  all_goals
    conv => whnf
    first
    | (obtain ⟨e1, e2⟩ := turnR_yes (rows := rows) (ls := ls) (by assumption) (by omega) (all_end hI.1 (by omega)); have hke : ls.take k = ls := List.take_of_length_le (by omega); rw [e1, e2, hke]; exact OutA_ids rfl rfl rfl ⟨⟨_, _, _, rfl, rfl⟩, ⟨_, _, _, rfl, rfl⟩, trivial⟩ rfl (.inr (flat_two (flat_map (fun _ => rfl) _) (flat_map (fun _ => rfl) _))))
    | (obtain ⟨e1, e2⟩ := turnR_no (rows := rows) (ls := ls) (by first | exact .inl (by assumption) | exact .inr (.inl (by omega)) | exact .inr (.inr (all_hit hy (by assumption)))); rw [e1, e2]; exact OutA_nil 4 1 74 3 rfl rfl (by decide) (OutA_nil 5 2 4 1 rfl rfl (by decide) (OutA_ids rfl rfl rfl ⟨⟨_, _, _, rfl, rfl⟩, ⟨_, _, _, rfl, rfl⟩, trivial⟩ rfl (.inr (flat_two (flat_map (fun _ => rfl) _) (flat_map (fun _ => rfl) _))))))
    | trace_state
end Go.Proofs.YthbheejeloomjaaGreatDoor
