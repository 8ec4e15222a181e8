/-
  A write put into a rising list: what the reference's function gives.
  No condition.
-/
import Derived.Test.YthbheejeloomjaaGreatDoorPutW
namespace Go.Proofs.YthbheejeloomjaaGreatDoor
open Go.Ab
set_option linter.unusedSimpArgs false
set_option maxRecDepth 20000
set_option maxHeartbeats 4000000
set_option linter.unusedVariables false

theorem c_spec_l5PutW (l : List WriteT) (w : WriteT) (hl : l.length ≤ 1048576) : PC Tryz.prog true 63 [.sl (l.map WriteT.cells), .agg w.cells] (.sl ((putWS l w).map WriteT.cells)) [] := by
  refine pc_at Tryz.func63 rfl (by kernel_rfl) 62 [.tmp 4] rfl rfl ?_
  repeat' (conv => whnf); first
 | (show Go.Ab.drawA _ (0 + 4096 * 9) _ _ _; refine draw_exp (.take 1 (.take 2 (.take 8 (.fork 0 (.fork 3 (.fork 4 (.fork 5 (.fork 6 (.fork 7 (.fork 9 (.take 10 (.done)) (.stop)) (.stop)) (.stop)) (.stop)) (.fork 5 (.fork 4 (.fork 6 (.fork 7 (.fork 9 (.take 10 (.done)) (.stop)) (.stop)) (.stop)) (.fork 6 (.fork 4 (.fork 7 (.fork 9 (.take 10 (.done)) (.stop)) (.stop)) (.stop)) (.stop))) (.stop))) (.fork 5 (.fork 3 (.fork 4 (.fork 6 (.fork 7 (.fork 9 (.take 10 (.done)) (.stop)) (.stop)) (.stop)) (.fork 6 (.fork 4 (.fork 7 (.fork 9 (.take 10 (.done)) (.stop)) (.stop)) (.stop)) (.stop))) (.fork 6 (.fork 3 (.fork 4 (.fork 7 (.fork 9 (.take 10 (.done)) (.stop)) (.stop)) (.stop)) (.stop)) (.stop))) (.stop))) (.fork 3 (.fork 0 (.fork 4 (.fork 5 (.fork 6 (.fork 7 (.fork 9 (.take 10 (.done)) (.stop)) (.stop)) (.stop)) (.stop)) (.fork 5 (.fork 4 (.fork 6 (.fork 7 (.fork 9 (.take 10 (.done)) (.stop)) (.stop)) (.stop)) (.fork 6 (.fork 4 (.fork 7 (.fork 9 (.take 10 (.done)) (.stop)) (.stop)) (.stop)) (.stop))) (.stop))) (.fork 5 (.fork 0 (.fork 4 (.fork 6 (.fork 7 (.fork 9 (.take 10 (.done)) (.stop)) (.stop)) (.stop)) (.fork 6 (.fork 4 (.fork 7 (.fork 9 (.take 10 (.done)) (.stop)) (.stop)) (.stop)) (.stop))) (.fork 6 (.fork 0 (.fork 4 (.fork 7 (.fork 9 (.take 10 (.done)) (.stop)) (.stop)) (.stop)) (.stop)) (.stop))) (.stop))) (.fork 5 (.fork 0 (.fork 3 (.fork 4 (.fork 6 (.fork 7 (.fork 9 (.take 10 (.done)) (.stop)) (.stop)) (.stop)) (.fork 6 (.fork 4 (.fork 7 (.fork 9 (.take 10 (.done)) (.stop)) (.stop)) (.stop)) (.stop))) (.fork 6 (.fork 3 (.fork 4 (.fork 7 (.fork 9 (.take 10 (.done)) (.stop)) (.stop)) (.stop)) (.stop)) (.stop))) (.fork 3 (.fork 0 (.fork 4 (.fork 6 (.fork 7 (.fork 9 (.take 10 (.done)) (.stop)) (.stop)) (.stop)) (.fork 6 (.fork 4 (.fork 7 (.fork 9 (.take 10 (.done)) (.stop)) (.stop)) (.stop)) (.stop))) (.fork 6 (.fork 0 (.fork 4 (.fork 7 (.fork 9 (.take 10 (.done)) (.stop)) (.stop)) (.stop)) (.stop)) (.stop))) (.fork 6 (.fork 0 (.fork 3 (.fork 4 (.fork 7 (.fork 9 (.take 10 (.done)) (.stop)) (.stop)) (.stop)) (.stop)) (.fork 3 (.fork 0 (.fork 4 (.fork 7 (.fork 9 (.take 10 (.done)) (.stop)) (.stop)) (.stop)) (.stop)) (.stop))) (.stop)))) (.stop))))))) (by kernel_rfl) (by kernel_rfl) (by kernel_rfl) ?_)
 | refine ix_at (m := k - 1) (by simp only [i64_wrap_eq]; omega) hy ?_
 | refine ix_as (m := k - 1) (by simp only [i64_wrap_eq]; omega) (by omega) (fun y hy => ?_)
 | (conv => arg 1; rw [bl_leq, Bool.not_not])
 | (refine nameB_cases (b := Op.bytesLess w.Key y.Key) (fun h => ?_) (fun h => ?_))
 | refine sl_pre (m := k) (by omega) (fun _ => rfl) ?_
 | refine sl_suf (m := k) (by omega) (fun _ => rfl) ?_
 | refine side_and (side_of (⟨by rw [i64_wrap_eq]; omega, by (try dsimp only); rw [i64_wrap_eq, List.length_map]; omega⟩)) ?_
 | (show ∃ e, _ ∧ _; rw [i64_wrap (by omega) (by omega), show ((k : Int) - 1).toNat = k - 1 by omega]; refine ix_ownX (f := WriteT.cells) (by omega) (fun z hz => ?_))
 | refine side_and (side_of (by first | (and_intros <;> first | exact Nat.le_of_ble_eq_true rfl | rfl | (intro e; exact absurd (AV.own.inj e) (by decide)) | (intro e; exact AV.noConfusion e)) | fail)) ?_
 | refine side_and (side_of (app_bound2 (L := ([] : List (List AV))) (M := l.map WriteT.cells) (by (try simp only [List.length_map, List.length_append, List.length_take, List.length_set, List.length_drop, List.length_cons, List.length_nil]); omega) (Nat.le_of_ble_eq_true rfl))) ?_
 | refine side_and (side_of (app_bound2 (L := ([] : List (List AV))) (M := (l.take k).map WriteT.cells) (by (try simp only [List.length_map, List.length_append, List.length_take, List.length_set, List.length_drop, List.length_cons, List.length_nil]); omega) (Nat.le_of_ble_eq_true rfl))) ?_
 | refine side_and (side_of (app_bound2 (L := ([] : List (List AV))) (M := (l.drop k).map WriteT.cells) (by (try simp only [List.length_map, List.length_append, List.length_take, List.length_set, List.length_drop, List.length_cons, List.length_nil]); omega) (Nat.le_of_ble_eq_true rfl))) ?_
 | refine side_and (side_of (one_lenC rfl rfl)) ?_
 | refine side_and (side_of (by first | (and_intros <;> first | exact Nat.le_of_ble_eq_true rfl | rfl | (intro e; exact absurd (AV.own.inj e) (by decide)) | (intro e; exact AV.noConfusion e)) | fail)) ?_
 | refine side_and (side_of (app_boundC (L := (l.take k).map WriteT.cells) rfl (by (try simp only [List.length_map, List.length_append, List.length_take, List.length_set, List.length_drop]); omega) (Nat.le_of_ble_eq_true rfl))) ?_
 | refine side_and (side_of (app_bound2 (L := (l.take k).map WriteT.cells ++ [w.cells]) (M := (l.drop k).map WriteT.cells) (by (try simp only [List.length_map, List.length_append, List.length_take, List.length_set, List.length_drop, List.length_cons, List.length_nil]); omega) (Nat.le_of_ble_eq_true rfl))) ?_
 | refine nameB_true ?_
 | refine nameB_false ?_
 | refine nameB_yes (by assumption) ?_
 | refine nameB_no (by assumption) ?_
 | refine nameB_dyes (by assumption) ?_
 | refine nameB_dno (by assumption) ?_
 | (refine nameB_dec (fun h => ?_) (fun h => ?_) <;> try simp only [lensB] at h)
 | (refine nameB_cases (fun h => ?_) (fun h => ?_) <;> try simp only [nmL, lensB] at h)
 | refine splitB_true ?_
 | refine splitB_false ?_
 | (refine splitB_intro (fun h => ?_) (fun h => ?_) <;> subst h)
 | refine draw_text (by kernel_rfl) (by kernel_rfl) (by kernel_rfl) ?_
 | refine both_intro ?_ ?_
 | refine eitherB_l ?_
 | exact True.intro
 | ((refine Loop_at [0, 3] [0] (Nat) (fun k => putGoW l w.Key k = putGoW l w.Key l.length ∧ k ≤ l.length) (fun k => [(5, .int .i64 (k : Nat))]) (fun k => []) (fun k => k) l.length ⟨by first | first | exact congrArg (fun n : Nat => AV.int .i64 (n : Int)) (List.length_map (WriteT.cells)) | exact congrArg (AV.int .i64) (by rw [i64_wrap_eq]; omega) | rfl | fail, trivial⟩ trivial (by (try dsimp only); first | (exact ⟨rfl, Nat.le_refl _⟩) | fail) ?_; (conv => whnf); refine side_and (side_of (by first | exact fun k => rfl | exact fun k => by simp [headOk, closedE, closedO, closedL, AV.closed, hcap.closed, hasId, AObj.box, BK.ofB])) ?_; rintro k hT; try dsimp only at hT))
 | (refine Again_of (k - 1) ⟨by first | rfl | exact i64_next (by omega) | first | exact congrArg (fun n : Nat => AV.int .i64 (n : Int)) (List.length_map (WriteT.cells)) | exact congrArg (AV.int .i64) (by rw [i64_wrap_eq]; omega) | fail, trivial⟩ trivial (by first | (and_intros <;> first | rfl | trivial) | fail) (by first | (and_intros <;> first | rfl | trivial) | fail) rfl rfl rfl (by (try dsimp only); first | (exact ⟨putGoW_next hT.1 (by assumption) hy (by assumption), by omega⟩) | fail) (show _ < _ by (try dsimp only); omega))
 | refine ix_map_at hx ?_
 | refine ix_map_at hy ?_
 | refine sl_pre (by omega) (fun _ => rfl) ?_
 | refine sl_suf (by omega) (fun _ => rfl) ?_
 | (refine ix_map2 hx (by omega) (by (try simp only [List.length_take]); omega) (fun y hy => ?_); try simp only [Int.toNat_natCast] at hy)
 | (refine ix_map (by omega) (by (try simp only [List.length_take]); omega) (fun x hx => ?_); try simp only [Int.toNat_natCast] at hx)
 | refine side_and (side_of (by first | (and_intros <;> first | exact Nat.le_of_ble_eq_true rfl | rfl | omega | (simp only [lensB, lensC]; omega) | exact bytes_ok (Nat.le_of_ble_eq_true rfl) (by omega) (by simp only [lensB, lensC]; omega) | exact bytes_okN (Nat.le_of_ble_eq_true rfl) (by simp only [lensB, lensC]; omega)) | fail)) ?_
 | refine nilB_intro (fun h => ?_) ?_
 | refine side_and (side_of (show Go.Ab.structOk _ _ = true by kernel_rfl)) ?_
 | refine side_and (side_of (map_len (fun _ => rfl))) ?_
 | refine side_and (side_of (map_one (fun _ => rfl) _)) ?_
 | refine side_and ?_ ?_
 | refine LoadK_of rfl rfl ?_
 | refine LoadD_cel rfl rfl rfl rfl ?_
 | refine LoadD_of rfl ?_
 | refine StoreD_of rfl rfl rfl ?_
 | refine AppD_of rfl (by and_intros <;> first | rfl | decide) (by simp only [lensC]; first | (refine ⟨by omega, ?_⟩; refine Nat.le_trans (Nat.mul_le_mul_left _ (show _ ≤ 512 by decide)) ?_; omega) | fail) ?_
 | refine AppN_of rfl rfl (by and_intros <;> rfl) (by simp only [lensC]; first | (refine ⟨by omega, ?_⟩; refine Nat.le_trans (Nat.mul_le_mul_left _ (show _ ≤ 512 by decide)) ?_; omega) | fail) ?_
 | (show False; omega)
 | fail
  all_goals
    conv => whnf
    first
    | (refine OutA_frz [20512] ?_; (conv => whnf); refine OutA_plain rfl rfl ?_; exact congrArg AV.sl (putWS_setc (putGoW_stop hT.1 (by assumption) hy (by assumption)).symm (by assumption) hy (by assumption)))
    | (refine OutA_frz [36928] ?_; (conv => whnf); refine OutA_plain rfl rfl ?_; exact congrArg AV.sl (putWS_cells (putWS_new (by first | exact (putGoW_zero hT.1 (by assumption)) | exact (putGoW_stop hT.1 (by assumption) hy (by assumption))) (by first | exact .inl (by assumption) | exact .inr ⟨_, hy, by assumption⟩)) rfl))
end Go.Proofs.YthbheejeloomjaaGreatDoor
