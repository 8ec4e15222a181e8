/-
  What the reference's NewDeal gives.
  No condition.
-/
import Derived.Test.YtgkghkcahepicaaGreatNew3
namespace Go.Proofs.YtgkghkcahepicaaGreat
open Go.Ab
set_option linter.unusedSimpArgs false
set_option maxRecDepth 20000
set_option maxHeartbeats 4000000
set_option linter.unusedVariables false

theorem big_appS {L M : List (List AV)} {b : Nat} (hM : M.length = 1) (hL : L.length ≤ 1048576) (hb : b ≤ 4096) : L.length + M.length ≤ 70368744177664 ∧ (L.length + M.length) * b ≤ 140737488355328 := by
  rw [hM]
  exact ⟨by omega, Nat.le_trans (Nat.mul_le_mul (Nat.succ_le_succ hL) hb) (Nat.le_of_ble_eq_true rfl)⟩
theorem big_mapS {α : Type} {f : α → List AV} {L : List α} {b : Nat} (hL : L.length ≤ 1048576) (hb : b ≤ 4096) : (L.map f).length ≤ 70368744177664 ∧ (L.map f).length * b ≤ 140737488355328 := by
  rw [List.length_map]
  exact ⟨by omega, Nat.le_trans (Nat.mul_le_mul hL hb) (Nat.le_of_ble_eq_true rfl)⟩
theorem c_spec_l1OwnSR (xs : List (List UInt8)) (hl : xs.length ≤ 1048576) : PC Tryz.prog true 45 [.sl (xs.map strC)] (.sl (xs.map strC)) [] := by
  refine pc_at Tryz.func45 rfl (by kernel_rfl) 6 [.tmp 2] rfl rfl ?_
  repeat' (conv => whnf); first
    | exact side_of (big_mapS (f := strC) hl (Nat.le_of_ble_eq_true rfl))
    | refine nameB_true ?_
    | refine nameB_false ?_
    | refine nameB_yes (by assumption) ?_
    | refine nameB_no (by assumption) ?_
    | refine nameB_dyes (by assumption) ?_
    | refine nameB_dno (by assumption) ?_
    | (refine nameB_dec (fun h => ?_) (fun h => ?_) <;> try simp only [lensB, midL_len, mkL_length, Int.toNat_natCast, fact_byte] at h)
    | (refine nameB_cases (fun h => ?_) (fun h => ?_) <;> try simp only [bne_iff_ne, ne_eq, bne_eq_false_iff_eq, beq_iff_eq, beq_eq_false_iff_ne, Bool.not_eq_true', Bool.not_eq_false', Bool.or_eq_true, Bool.or_eq_false_iff, lensB, midL_len, mkL_length, Int.toNat_natCast, fact_byte] at h)
    | refine splitB_true ?_
    | refine splitB_false ?_
    | (refine splitB_intro (fun h => ?_) (fun h => ?_) <;> subst h)
    | refine draw_text (by kernel_rfl) (by kernel_rfl) (by kernel_rfl) ?_
    | refine both_intro ?_ ?_
    | refine eitherB_l ?_
    | exact True.intro
    | refine ix_map_at hx ?_
    | refine ix_map_at hy ?_
    | refine sl_pre (by omega) (fun _ => rfl) ?_
    | refine sl_suf (by omega) (fun _ => rfl) ?_
    | (refine ix_map2 hx (by omega) (by (try simp only [List.length_take]); omega) (fun y hy => ?_); try simp only [Int.toNat_natCast] at hy)
    | (refine ix_map (by omega) (by (try simp only [List.length_take]); omega) (fun x hx => ?_); try simp only [Int.toNat_natCast] at hx)
    | refine side_and (side_of (by first | (and_intros <;> first | exact Nat.le_of_ble_eq_true rfl | rfl | omega | (simp only [lensB, lensC, List.length_replicate, midL_len, mkL_length]; omega) | exact bytes_ok (Nat.le_of_ble_eq_true rfl) (by omega) (by simp only [lensB, lensC, List.length_replicate, midL_len, mkL_length]; omega) | exact bytes_okN (Nat.le_of_ble_eq_true rfl) (by simp only [lensB, lensC, List.length_replicate, midL_len, mkL_length]; omega)) | fail)) ?_
    | refine nilB_intro (fun h => ?_) ?_
    | refine side_and (side_of (show Go.Ab.structOk _ _ = true by kernel_rfl)) ?_
    | refine side_and (side_of (map_len (fun _ => rfl))) ?_
    | refine side_and (side_of (map_one (fun _ => rfl) _)) ?_
    | refine side_and ?_ ?_
    | refine LoadK_of rfl rfl ?_
    | refine LoadD_cel rfl rfl rfl rfl ?_
    | refine LoadD_of rfl ?_
    | refine StoreD_of rfl rfl rfl ?_
    | refine AppD_of rfl (by and_intros <;> first | rfl | decide) (by simp only [lensC]; first | (refine ⟨by omega, ?_⟩; refine Nat.le_trans (Nat.mul_le_mul_left _ (show _ ≤ 512 by decide)) ?_; omega) | fail) ?_
    | refine AppN_of rfl rfl (by and_intros <;> rfl) (by simp only [lensC]; first | (refine ⟨by omega, ?_⟩; refine Nat.le_trans (Nat.mul_le_mul_left _ (show _ ≤ 512 by decide)) ?_; omega) | fail) ?_
    | (show False; omega)
  all_goals
    conv => whnf
    refine OutA_frz [4128] ?_
    conv => whnf
    exact OutA_plain rfl rfl rfl
theorem c_spec_l15OwnO (xs : List OrderT) (hl : xs.length ≤ 1048576) (hb : ∀ x ∈ xs, x.Reads.length ≤ 1048576 ∧ x.Writes.length ≤ 1048576) : PC Tryz.prog true 46 [.sl (xs.map OrderT.cells)] (.sl (xs.map OrderT.cells)) [] := by
  refine pc_at Tryz.func46 rfl (by kernel_rfl) 27 [.tmp 2] rfl rfl ?_
  repeat' (conv => whnf); first
    | (show Go.Ab.drawA _ _ _ _ _; refine draw_exp (.take 0 (.take 1 (.take 3 (.take 7 (.fork 2 (.fork 4 (.fork 5 (.fork 6 (.fork 8 (.fork 9 (.fork 10 (.fork 11 (.fork 12 (.take 13 (.done)) (.stop)) (.stop)) (.stop)) (.stop)) (.stop)) (.fork 8 (.fork 6 (.fork 9 (.fork 10 (.fork 11 (.fork 12 (.take 13 (.done)) (.stop)) (.stop)) (.stop)) (.stop)) (.stop)) (.stop))) (.fork 6 (.fork 5 (.fork 8 (.fork 9 (.fork 10 (.fork 11 (.fork 12 (.take 13 (.done)) (.stop)) (.stop)) (.stop)) (.stop)) (.stop)) (.fork 8 (.fork 5 (.fork 9 (.fork 10 (.fork 11 (.fork 12 (.take 13 (.done)) (.stop)) (.stop)) (.stop)) (.stop)) (.stop)) (.stop))) (.fork 8 (.fork 5 (.fork 6 (.fork 9 (.fork 10 (.fork 11 (.fork 12 (.take 13 (.done)) (.stop)) (.stop)) (.stop)) (.stop)) (.stop)) (.fork 6 (.fork 5 (.fork 9 (.fork 10 (.fork 11 (.fork 12 (.take 13 (.done)) (.stop)) (.stop)) (.stop)) (.stop)) (.stop)) (.stop))) (.stop)))) (.fork 6 (.fork 4 (.fork 5 (.fork 8 (.fork 9 (.fork 10 (.fork 11 (.fork 12 (.take 13 (.done)) (.stop)) (.stop)) (.stop)) (.stop)) (.stop)) (.fork 8 (.fork 5 (.fork 9 (.fork 10 (.fork 11 (.fork 12 (.take 13 (.done)) (.stop)) (.stop)) (.stop)) (.stop)) (.stop)) (.stop))) (.fork 8 (.fork 4 (.fork 5 (.fork 9 (.fork 10 (.fork 11 (.fork 12 (.take 13 (.done)) (.stop)) (.stop)) (.stop)) (.stop)) (.stop)) (.stop)) (.stop))) (.fork 8 (.fork 4 (.fork 5 (.fork 6 (.fork 9 (.fork 10 (.fork 11 (.fork 12 (.take 13 (.done)) (.stop)) (.stop)) (.stop)) (.stop)) (.stop)) (.fork 6 (.fork 5 (.fork 9 (.fork 10 (.fork 11 (.fork 12 (.take 13 (.done)) (.stop)) (.stop)) (.stop)) (.stop)) (.stop)) (.stop))) (.fork 6 (.fork 4 (.fork 5 (.fork 9 (.fork 10 (.fork 11 (.fork 12 (.take 13 (.done)) (.stop)) (.stop)) (.stop)) (.stop)) (.stop)) (.stop)) (.stop))) (.stop)))) (.fork 4 (.fork 2 (.fork 5 (.fork 6 (.fork 8 (.fork 9 (.fork 10 (.fork 11 (.fork 12 (.take 13 (.done)) (.stop)) (.stop)) (.stop)) (.stop)) (.stop)) (.fork 8 (.fork 6 (.fork 9 (.fork 10 (.fork 11 (.fork 12 (.take 13 (.done)) (.stop)) (.stop)) (.stop)) (.stop)) (.stop)) (.stop))) (.fork 6 (.fork 5 (.fork 8 (.fork 9 (.fork 10 (.fork 11 (.fork 12 (.take 13 (.done)) (.stop)) (.stop)) (.stop)) (.stop)) (.stop)) (.fork 8 (.fork 5 (.fork 9 (.fork 10 (.fork 11 (.fork 12 (.take 13 (.done)) (.stop)) (.stop)) (.stop)) (.stop)) (.stop)) (.stop))) (.fork 8 (.fork 5 (.fork 6 (.fork 9 (.fork 10 (.fork 11 (.fork 12 (.take 13 (.done)) (.stop)) (.stop)) (.stop)) (.stop)) (.stop)) (.fork 6 (.fork 5 (.fork 9 (.fork 10 (.fork 11 (.fork 12 (.take 13 (.done)) (.stop)) (.stop)) (.stop)) (.stop)) (.stop)) (.stop))) (.stop)))) (.fork 5 (.fork 2 (.fork 6 (.fork 8 (.fork 9 (.fork 10 (.fork 11 (.fork 12 (.take 13 (.done)) (.stop)) (.stop)) (.stop)) (.stop)) (.stop)) (.fork 8 (.fork 6 (.fork 9 (.fork 10 (.fork 11 (.fork 12 (.take 13 (.done)) (.stop)) (.stop)) (.stop)) (.stop)) (.stop)) (.stop))) (.fork 6 (.fork 2 (.fork 8 (.fork 9 (.fork 10 (.fork 11 (.fork 12 (.take 13 (.done)) (.stop)) (.stop)) (.stop)) (.stop)) (.stop)) (.fork 8 (.fork 2 (.fork 9 (.fork 10 (.fork 11 (.fork 12 (.take 13 (.done)) (.stop)) (.stop)) (.stop)) (.stop)) (.fork 9 (.fork 2 (.fork 10 (.fork 11 (.fork 12 (.take 13 (.done)) (.stop)) (.stop)) (.stop)) (.stop)) (.stop))) (.stop))) (.fork 8 (.fork 2 (.fork 6 (.fork 9 (.fork 10 (.fork 11 (.fork 12 (.take 13 (.done)) (.stop)) (.stop)) (.stop)) (.stop)) (.stop)) (.fork 6 (.fork 2 (.fork 9 (.fork 10 (.fork 11 (.fork 12 (.take 13 (.done)) (.stop)) (.stop)) (.stop)) (.stop)) (.fork 9 (.fork 2 (.fork 10 (.fork 11 (.fork 12 (.take 13 (.done)) (.stop)) (.stop)) (.stop)) (.stop)) (.stop))) (.stop))) (.stop)))) (.fork 6 (.fork 2 (.fork 5 (.fork 8 (.fork 9 (.fork 10 (.fork 11 (.fork 12 (.take 13 (.done)) (.stop)) (.stop)) (.stop)) (.stop)) (.stop)) (.fork 8 (.fork 5 (.fork 9 (.fork 10 (.fork 11 (.fork 12 (.take 13 (.done)) (.stop)) (.stop)) (.stop)) (.stop)) (.stop)) (.stop))) (.fork 5 (.fork 2 (.fork 8 (.fork 9 (.fork 10 (.fork 11 (.fork 12 (.take 13 (.done)) (.stop)) (.stop)) (.stop)) (.stop)) (.stop)) (.fork 8 (.fork 2 (.fork 9 (.fork 10 (.fork 11 (.fork 12 (.take 13 (.done)) (.stop)) (.stop)) (.stop)) (.stop)) (.fork 9 (.fork 2 (.fork 10 (.fork 11 (.fork 12 (.take 13 (.done)) (.stop)) (.stop)) (.stop)) (.stop)) (.stop))) (.stop))) (.fork 8 (.fork 2 (.fork 5 (.fork 9 (.fork 10 (.fork 11 (.fork 12 (.take 13 (.done)) (.stop)) (.stop)) (.stop)) (.stop)) (.stop)) (.fork 5 (.fork 2 (.fork 9 (.fork 10 (.fork 11 (.fork 12 (.take 13 (.done)) (.stop)) (.stop)) (.stop)) (.stop)) (.fork 9 (.fork 2 (.fork 10 (.fork 11 (.fork 12 (.take 13 (.done)) (.stop)) (.stop)) (.stop)) (.stop)) (.stop))) (.stop))) (.stop)))) (.fork 8 (.fork 2 (.fork 5 (.fork 6 (.fork 9 (.fork 10 (.fork 11 (.fork 12 (.take 13 (.done)) (.stop)) (.stop)) (.stop)) (.stop)) (.stop)) (.fork 6 (.fork 5 (.fork 9 (.fork 10 (.fork 11 (.fork 12 (.take 13 (.done)) (.stop)) (.stop)) (.stop)) (.stop)) (.stop)) (.stop))) (.fork 5 (.fork 2 (.fork 6 (.fork 9 (.fork 10 (.fork 11 (.fork 12 (.take 13 (.done)) (.stop)) (.stop)) (.stop)) (.stop)) (.stop)) (.fork 6 (.fork 2 (.fork 9 (.fork 10 (.fork 11 (.fork 12 (.take 13 (.done)) (.stop)) (.stop)) (.stop)) (.stop)) (.fork 9 (.fork 2 (.fork 10 (.fork 11 (.fork 12 (.take 13 (.done)) (.stop)) (.stop)) (.stop)) (.stop)) (.stop))) (.stop))) (.fork 6 (.fork 2 (.fork 5 (.fork 9 (.fork 10 (.fork 11 (.fork 12 (.take 13 (.done)) (.stop)) (.stop)) (.stop)) (.stop)) (.stop)) (.fork 5 (.fork 2 (.fork 9 (.fork 10 (.fork 11 (.fork 12 (.take 13 (.done)) (.stop)) (.stop)) (.stop)) (.stop)) (.fork 9 (.fork 2 (.fork 10 (.fork 11 (.fork 12 (.take 13 (.done)) (.stop)) (.stop)) (.stop)) (.stop)) (.stop))) (.stop))) (.stop)))) (.stop))))) (.fork 6 (.fork 2 (.fork 4 (.fork 5 (.fork 8 (.fork 9 (.fork 10 (.fork 11 (.fork 12 (.take 13 (.done)) (.stop)) (.stop)) (.stop)) (.stop)) (.stop)) (.fork 8 (.fork 5 (.fork 9 (.fork 10 (.fork 11 (.fork 12 (.take 13 (.done)) (.stop)) (.stop)) (.stop)) (.stop)) (.stop)) (.stop))) (.fork 8 (.fork 4 (.fork 5 (.fork 9 (.fork 10 (.fork 11 (.fork 12 (.take 13 (.done)) (.stop)) (.stop)) (.stop)) (.stop)) (.stop)) (.stop)) (.stop))) (.fork 4 (.fork 2 (.fork 5 (.fork 8 (.fork 9 (.fork 10 (.fork 11 (.fork 12 (.take 13 (.done)) (.stop)) (.stop)) (.stop)) (.stop)) (.stop)) (.fork 8 (.fork 5 (.fork 9 (.fork 10 (.fork 11 (.fork 12 (.take 13 (.done)) (.stop)) (.stop)) (.stop)) (.stop)) (.stop)) (.stop))) (.fork 5 (.fork 2 (.fork 8 (.fork 9 (.fork 10 (.fork 11 (.fork 12 (.take 13 (.done)) (.stop)) (.stop)) (.stop)) (.stop)) (.stop)) (.fork 8 (.fork 2 (.fork 9 (.fork 10 (.fork 11 (.fork 12 (.take 13 (.done)) (.stop)) (.stop)) (.stop)) (.stop)) (.fork 9 (.fork 2 (.fork 10 (.fork 11 (.fork 12 (.take 13 (.done)) (.stop)) (.stop)) (.stop)) (.stop)) (.stop))) (.stop))) (.fork 8 (.fork 2 (.fork 5 (.fork 9 (.fork 10 (.fork 11 (.fork 12 (.take 13 (.done)) (.stop)) (.stop)) (.stop)) (.stop)) (.stop)) (.fork 5 (.fork 2 (.fork 9 (.fork 10 (.fork 11 (.fork 12 (.take 13 (.done)) (.stop)) (.stop)) (.stop)) (.stop)) (.fork 9 (.fork 2 (.fork 10 (.fork 11 (.fork 12 (.take 13 (.done)) (.stop)) (.stop)) (.stop)) (.stop)) (.stop))) (.stop))) (.stop)))) (.fork 8 (.fork 2 (.fork 4 (.fork 5 (.fork 9 (.fork 10 (.fork 11 (.fork 12 (.take 13 (.done)) (.stop)) (.stop)) (.stop)) (.stop)) (.stop)) (.stop)) (.fork 4 (.fork 2 (.fork 5 (.fork 9 (.fork 10 (.fork 11 (.fork 12 (.take 13 (.done)) (.stop)) (.stop)) (.stop)) (.stop)) (.stop)) (.fork 5 (.fork 2 (.fork 9 (.fork 10 (.fork 11 (.fork 12 (.take 13 (.done)) (.stop)) (.stop)) (.stop)) (.stop)) (.fork 9 (.fork 2 (.fork 10 (.fork 11 (.fork 12 (.take 13 (.done)) (.stop)) (.stop)) (.stop)) (.stop)) (.stop))) (.stop))) (.stop))) (.stop)))) (.fork 8 (.fork 2 (.fork 4 (.fork 5 (.fork 6 (.fork 9 (.fork 10 (.fork 11 (.fork 12 (.take 13 (.done)) (.stop)) (.stop)) (.stop)) (.stop)) (.stop)) (.fork 6 (.fork 5 (.fork 9 (.fork 10 (.fork 11 (.fork 12 (.take 13 (.done)) (.stop)) (.stop)) (.stop)) (.stop)) (.stop)) (.stop))) (.fork 6 (.fork 4 (.fork 5 (.fork 9 (.fork 10 (.fork 11 (.fork 12 (.take 13 (.done)) (.stop)) (.stop)) (.stop)) (.stop)) (.stop)) (.stop)) (.stop))) (.fork 4 (.fork 2 (.fork 5 (.fork 6 (.fork 9 (.fork 10 (.fork 11 (.fork 12 (.take 13 (.done)) (.stop)) (.stop)) (.stop)) (.stop)) (.stop)) (.fork 6 (.fork 5 (.fork 9 (.fork 10 (.fork 11 (.fork 12 (.take 13 (.done)) (.stop)) (.stop)) (.stop)) (.stop)) (.stop)) (.stop))) (.fork 5 (.fork 2 (.fork 6 (.fork 9 (.fork 10 (.fork 11 (.fork 12 (.take 13 (.done)) (.stop)) (.stop)) (.stop)) (.stop)) (.stop)) (.fork 6 (.fork 2 (.fork 9 (.fork 10 (.fork 11 (.fork 12 (.take 13 (.done)) (.stop)) (.stop)) (.stop)) (.stop)) (.fork 9 (.fork 2 (.fork 10 (.fork 11 (.fork 12 (.take 13 (.done)) (.stop)) (.stop)) (.stop)) (.stop)) (.stop))) (.stop))) (.fork 6 (.fork 2 (.fork 5 (.fork 9 (.fork 10 (.fork 11 (.fork 12 (.take 13 (.done)) (.stop)) (.stop)) (.stop)) (.stop)) (.stop)) (.fork 5 (.fork 2 (.fork 9 (.fork 10 (.fork 11 (.fork 12 (.take 13 (.done)) (.stop)) (.stop)) (.stop)) (.stop)) (.fork 9 (.fork 2 (.fork 10 (.fork 11 (.fork 12 (.take 13 (.done)) (.stop)) (.stop)) (.stop)) (.stop)) (.stop))) (.stop))) (.stop)))) (.fork 6 (.fork 2 (.fork 4 (.fork 5 (.fork 9 (.fork 10 (.fork 11 (.fork 12 (.take 13 (.done)) (.stop)) (.stop)) (.stop)) (.stop)) (.stop)) (.stop)) (.fork 4 (.fork 2 (.fork 5 (.fork 9 (.fork 10 (.fork 11 (.fork 12 (.take 13 (.done)) (.stop)) (.stop)) (.stop)) (.stop)) (.stop)) (.fork 5 (.fork 2 (.fork 9 (.fork 10 (.fork 11 (.fork 12 (.take 13 (.done)) (.stop)) (.stop)) (.stop)) (.stop)) (.fork 9 (.fork 2 (.fork 10 (.fork 11 (.fork 12 (.take 13 (.done)) (.stop)) (.stop)) (.stop)) (.stop)) (.stop))) (.stop))) (.stop))) (.stop)))) (.stop))))))))) (by kernel_rfl) (by kernel_rfl) (by kernel_rfl) ?_)
    | refine side_and (side_of (big_appS (L := (xs.take k).map OrderT.cells) rfl (by rw [List.length_map, List.length_take]; omega) (Nat.le_of_ble_eq_true rfl))) ?_
    | refine side_and (side_of (one_lenC rfl rfl)) ?_
    | refine side_and (side_of (by first | (and_intros <;> first | exact Nat.le_of_ble_eq_true rfl | rfl | (intro e; exact absurd (AV.own.inj e) (by decide)) | (intro e; exact AV.noConfusion e)) | fail)) ?_
    | refine side_and (side_of (app_boundC (L := (xs.take k).map OrderT.cells) rfl (by (try simp only [List.length_map, List.length_append, List.length_take, List.length_set, List.length_drop]); omega) (Nat.le_of_ble_eq_true rfl))) ?_
    | exact side_of (big_mapS (f := WriteT.cells) (hb x (List.mem_of_getElem? hx)).2 (Nat.le_of_ble_eq_true rfl))
    | refine nameB_true ?_
    | refine nameB_false ?_
    | refine nameB_yes (by assumption) ?_
    | refine nameB_no (by assumption) ?_
    | refine nameB_dyes (by assumption) ?_
    | refine nameB_dno (by assumption) ?_
    | (refine nameB_dec (fun h => ?_) (fun h => ?_) <;> try simp only [lensB, midL_len, mkL_length, Int.toNat_natCast, fact_byte] at h)
    | (refine nameB_cases (fun h => ?_) (fun h => ?_) <;> try simp only [bne_iff_ne, ne_eq, bne_eq_false_iff_eq, beq_iff_eq, beq_eq_false_iff_ne, Bool.not_eq_true', Bool.not_eq_false', Bool.or_eq_true, Bool.or_eq_false_iff, lensB, midL_len, mkL_length, Int.toNat_natCast, fact_byte] at h)
    | refine splitB_true ?_
    | refine splitB_false ?_
    | (refine splitB_intro (fun h => ?_) (fun h => ?_) <;> subst h)
    | refine draw_text (by kernel_rfl) (by kernel_rfl) (by kernel_rfl) ?_
    | refine both_intro ?_ ?_
    | refine eitherB_l ?_
    | exact True.intro
    | (show Go.Ab.Loop _ _ _; (refine Loop_nil 3 1 81 3 rfl rfl (by decide) ?_; refine Loop_at [6, 7] [] (Nat) (fun k => True ∧ k ≤ xs.length) (fun k => [(3, .own 1), (8, .int .i64 (k : Nat))]) (fun k => [(1, ⟨false, 81, 3, (xs.take k).map OrderT.cells⟩)]) (fun k => xs.length - k) 0 ⟨by first | rfl | (simp_all <;> fail) | fail, by first | (simp_all <;> fail) | rfl | fail, trivial⟩ ⟨by first | rfl | exact congrArg (fun e => some (AObj.mk _ _ _ e)) (app_snoc hx rfl) | fail | fail, trivial⟩ (by (try dsimp only); first | trivial | (refine ⟨?_, by omega⟩; simp <;> fail) | (simp <;> fail) | fail) ?_; (conv => whnf); refine side_and (side_of (by first | exact fun k => rfl | exact fun k => by simp [headOk, closedE, closedO, closedL, AV.closed, hcap.closed, hasId, AObj.box, BK.ofB])) ?_; rintro k hT; try dsimp only at hT))
    | (show Go.Ab.Again _ _ _ _ _ _ _ _ _ _ _; refine Again_of (k + 1) ⟨by first | rfl | (simp_all <;> fail) | fail, by first | rfl | exact i64_next (by omega) | (simp_all <;> fail) | fail, trivial⟩ ⟨by first | rfl | exact congrArg (fun e => some (AObj.mk _ _ _ e)) (app_snoc hx rfl) | fail | fail, trivial⟩ (by first | (and_intros <;> first | rfl | trivial) | fail) (by first | (and_intros <;> first | rfl | trivial) | fail) rfl rfl rfl (by (try dsimp only); first | (exact ⟨trivial, by omega⟩) | fail) (show _ < _ by (try dsimp only); omega))
    | (show Go.Ab.CallA _ _ _ _ _ _ _; refine CallT (c_spec_l1OwnSR x.Reads (hb x (List.mem_of_getElem? hx)).1) rfl rfl rfl rfl (Nat.le_of_ble_eq_true rfl) ?_)
    | (show Go.Ab.CallD _ _ _ _ _ _ _; refine CallDT (c_spec_l1OwnSR x.Reads (hb x (List.mem_of_getElem? hx)).1) rfl rfl rfl ⟨rfl, rfl⟩ ?_)
    | refine ix_map_at hx ?_
    | refine ix_map_at hy ?_
    | refine sl_pre (by omega) (fun _ => rfl) ?_
    | refine sl_suf (by omega) (fun _ => rfl) ?_
    | (refine ix_map2 hx (by omega) (by (try simp only [List.length_take]); omega) (fun y hy => ?_); try simp only [Int.toNat_natCast] at hy)
    | (refine ix_map (by omega) (by (try simp only [List.length_take]); omega) (fun x hx => ?_); try simp only [Int.toNat_natCast] at hx)
    | refine side_and (side_of (by first | (and_intros <;> first | exact Nat.le_of_ble_eq_true rfl | rfl | omega | (simp only [lensB, lensC, List.length_replicate, midL_len, mkL_length]; omega) | exact bytes_ok (Nat.le_of_ble_eq_true rfl) (by omega) (by simp only [lensB, lensC, List.length_replicate, midL_len, mkL_length]; omega) | exact bytes_okN (Nat.le_of_ble_eq_true rfl) (by simp only [lensB, lensC, List.length_replicate, midL_len, mkL_length]; omega)) | fail)) ?_
    | refine nilB_intro (fun h => ?_) ?_
    | refine side_and (side_of (show Go.Ab.structOk _ _ = true by kernel_rfl)) ?_
    | refine side_and (side_of (map_len (fun _ => rfl))) ?_
    | refine side_and (side_of (map_one (fun _ => rfl) _)) ?_
    | refine side_and ?_ ?_
    | refine LoadK_of rfl rfl ?_
    | refine LoadD_cel rfl rfl rfl rfl ?_
    | refine LoadD_of rfl ?_
    | refine StoreD_of rfl rfl rfl ?_
    | refine AppD_of rfl (by and_intros <;> first | rfl | decide) (by simp only [lensC]; first | (refine ⟨by omega, ?_⟩; refine Nat.le_trans (Nat.mul_le_mul_left _ (show _ ≤ 512 by decide)) ?_; omega) | fail) ?_
    | refine AppN_of rfl rfl (by and_intros <;> rfl) (by simp only [lensC]; first | (refine ⟨by omega, ?_⟩; refine Nat.le_trans (Nat.mul_le_mul_left _ (show _ ≤ 512 by decide)) ?_; omega) | fail) ?_
    | (show False; omega)
  all_goals
    conv => whnf
    refine OutA_frz [1] ?_
    conv => whnf
    exact OutA_plain rfl rfl (congrArg AV.sl (full_take (by omega)))
end Go.Proofs.YtgkghkcahepicaaGreat
